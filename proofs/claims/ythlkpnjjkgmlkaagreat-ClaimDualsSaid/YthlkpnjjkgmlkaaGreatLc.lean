/- Contracts: whether a case is right, and light; what is so of a right one. No condition. -/
import Derived.Test.YthlkpnjjkgmlkaaGreatYp
import Derived.Test.YthlkpnjjkgmlkaaGreatXf
import Derived.Test.YthlkpnjjkgmlkaaGreatK2
import Derived.Test.YthlkpnjjkgmlkaaGreatRows
import Derived.Test.YthlkpnjjkgmlkaaGreatK1
import Derived.ProofKit
import Derived.OpenShut
import Derived.Lib.SmallJoins
import Derived.Test.YthlkpnjjkgmlkaaGreatLa
import Derived.Test.YthlkpnjjkgmlkaaGreatXh
namespace Go.Proofs.YthlkpnjjkgmlkaaGreat
set_option linter.unusedSimpArgs false
set_option linter.unusedVariables false
set_option maxRecDepth 20000
open Go Go.Proofs Go.Vc
theorem ZjR {u:Un} (h:v'G u=true):OkU u:=by
 simp only[v'G,Za0,ZeN,z'f,decide_eq_true_eq,z'q]at h
 obtain⟨⟨⟨h1,h2⟩,h3⟩,h4⟩:=h
 exact⟨by omega,by omega,by omega,fun r hr=>by have:=(h4 r hr).1;omega,fun r hr x hx=>by have:=(h4 r hr).2 x hx;omega⟩
theorem Zj4 {m r md lc:Int} {b:List En} (h:v'T m r md lc b=true) {e:En} (he:e∈b):0≤e.1∧e.1<lc∧0≤e.2∧e.2<md:=by
 simp only[v'T,z'f,z'q]at h
 obtain⟨i,hi⟩:=y'k he
 have:=h.1.2 i (z'U.2 (z'b.1 hi).1)
 simp only[ZhR,ZnL,hi,z'y,z'x,Bool.or_eq_false_iff,decide_eq_false_iff_not]at this
 omega
structure Rt (u:Un) (c:Cf) (m r:Int):Prop where
 okU:OkU u
 okC:OkC c
 rt:w'V u c m r=true
section
variable {u : Un} {c : Cf} {m r : Int}
theorem Rt.head (h:Rt u c m r):Zii u c=true:=by
 have:=h.rt;simp only[w'V,z'f]at this;exact this.1.1
theorem Rt.unit (h:Rt u c m r):x'd u=true:=by
 have:=h.head;simp only[Zii,z'f]at this;exact this.1.1.1.1.1
theorem Rt.lens (h:Rt u c m r):c.pc.length=u.regs.length∧c.regs.length=u.regs.length∧c.bufs.length=u.regs.length∧c.mem.length=u.init.length∧y'O c.mem u.md=true:=by
 have:=h.head;simp only[Zii,z'f,decide_eq_true_eq]at this
 exact⟨this.1.1.1.1.2,this.1.1.1.2,this.1.1.2,this.1.2,this.2⟩
theorem Rt.uhead (h:Rt u c m r):(2≤u.md∧u.md≤16)∧y'O u.init u.md=true∧u.init.length≤6∧(1≤u.regs.length∧u.regs.length≤4)∧u.code.length=u.regs.length:=by
 have:=h.unit;simp only[x'd,v'8,z'f,decide_eq_true_eq]at this
 exact⟨⟨this.1.1.1.1.1.1.1,this.1.1.1.1.1.1.2⟩,this.1.1.1.1.1.2,this.1.1.1.1.2,⟨this.1.1.1.2,this.1.1.2⟩,this.1.2⟩
theorem Rt.thr (h:Rt u c m r) {t:Nat} (ht:t<u.regs.length):Zgq u c m r t=true:=by
 have:=h.rt;simp only[w'V,z'f,z'q]at this
 exact this.1.2 t (z'U.2 ht)
theorem Rt.tail (h:Rt u c m r):v'T m r u.md u.init.length []=true:=by
 have:=h.rt;simp only[w'V,z'f]at this;exact this.2
theorem Rt.row (h:Rt u c m r) {t:Nat} (ht:t<u.regs.length):Za3 (u.regs.getD t 0) u.init.length (u.code.getD t [])=true:=by
 have:=h.unit;simp only[x'd,z'f,z'q]at this
 exact this.2 t (z'U.2 ht)
theorem Rt.gate (h:Rt u c m r):(1≤m∧m≤3)∧(1≤r∧r≤4):=by
 have:=h.tail;simp only[v'T,Zd6,z'f,decide_eq_true_eq]at this
 omega
theorem Rt.locs (h:Rt u c m r):ZoM c:=by
 intro b hb e he
 obtain⟨i,hi⟩:=y'k hb
 have hl:=h.lens
 have hil:i<c.bufs.length:=(z'b.1 hi).1
 have ht:=h.thr (t:=i) (by omega)
 simp only[Zgq,z'f,z'g,hi,z'y]at ht
 have:=Zj4 ht.2 he
 omega
end
theorem ZjZ (c:Cf) (hc:OkC c):Pure Tryz.prog 99 [.agg (cfC c)] (.agg (cfC c)):=
 Fun.fz ((w'U c hc).mono fun d H' ⟨q,h1,h2,h3⟩=>by
  rw[h2,h3]
  exact⟨_,rfl,OC.fzL (X:=[]) h1 fun y hy=>hy⟩)
theorem ZpX {md:Int} (hm:2≤md) {own mem:List Int} {all:List (List Int)} {l:List Opc} (h:w'1 l md own all mem=true): ∀k,k≤l.length→ ∃s,RunI md own all mem l k s:=by
 simp only[w'1,y'G,z'f,z'q]at h
 intro k
 induction k with
 |zero=>intro _;exact⟨[],RunI.zero (by simp_all)⟩
 |succ k ih=>
  intro hk
  obtain⟨s,hs⟩:=ih (by omega)
  obtain⟨x,hx⟩: ∃x,l[k]?=some x:=⟨_,z'c (by omega)⟩
  exact⟨_,(hs.next hm hx (by simp_all[z'l hx]) (by simp_all) (by simp_all) (by simp_all)).2⟩
theorem ZnI {md:Int} (hm:2≤md) (own mem:List Int) (all:List (List Int)) (l:List Opc):0≤Zcc l md own all mem∧Zcc l md own all mem<md:=by
 unfold Zcc
 cases hv:w'1 l md own all mem with
 |false=>exact⟨Int.le_refl _,show(0:Int)<md by omega⟩
 |true=>
  obtain⟨s,hs⟩:=ZpX hm hv l.length (z'h _)
  have hr:=hs.run
  rw[List.drop_length]at hr
  simp only
  rw[←hr]
  exact ZaQ hs.inm (by omega) 0
structure Zbs (u:Un) (c:Cf) (i:Nat) (x:Ins) (row:List Int) (b:List En) (p:Nat):Prop where
 thr:Thr u c i x row b
 pc:c.pc[i]?=some (p:Int)
 pl:p≤100000
 fit:Fit u (setP c i ((p+1:Nat):Int)) i x row b
 kind: ∃rw n,u.code[i]?=some rw∧u.regs[i]?=some n∧rw[p]?=some x∧(row.length:Int)=n∧(x.op=22∨w'a x n u.init.length rw.length=true∧p+1<rw.length)
theorem OkC.setP {c:Cf} (h:OkC c) (i:Nat) (n:Int):OkC (setP c i n):=⟨by simpa[Go.Proofs.YthlkpnjjkgmlkaaGreat.setP]using h.pc,h.mem,h.regs,h.row,h.bufs,h.buf⟩
theorem ZvG:ndF 2=some ⟨true,false,true,false,false,false⟩:=rfl
theorem Zue:ndF 3=some ⟨true,true,false,false,false,false⟩:=rfl
theorem ZvH:ndF 4=some ⟨false,true,true,false,false,false⟩:=rfl
theorem Zuf:ndF 5=some ⟨true,true,true,true,false,false⟩:=rfl
theorem Zug:ndF 6=some ⟨true,true,true,false,false,false⟩:=rfl
theorem Zuh:ndF 7=some ⟨true,true,true,false,false,false⟩:=rfl
theorem ZvI:ndF 9=some ⟨false,true,true,false,true,false⟩:=rfl
theorem Zvi:ndF 20=some ⟨false,false,false,false,false,true⟩:=rfl
theorem Zvj:ndF 21=some ⟨false,false,true,false,false,true⟩:=rfl
theorem Zs9 {x:Ins} {n l k:Int} (h:w'a x n l k=true) (ho:x.op=2∨x.op=3∨x.op=5∨x.op=6∨x.op=7):0≤x.reg∧x.reg<n:=by
 unfold w'a at h
 rcases ho with ho|ho|ho|ho|ho
 ·rw[ho,ZvG]at h;simp only[v'w,z'f]at h;exact x'e.1 h.1.1.1.1.1
 ·rw[ho,Zue]at h;simp only[v'w,z'f]at h;exact x'e.1 h.1.1.1.1.1
 ·rw[ho,Zuf]at h;simp only[v'w,z'f]at h;exact x'e.1 h.1.1.1.1.1
 ·rw[ho,Zug]at h;simp only[v'w,z'f]at h;exact x'e.1 h.1.1.1.1.1
 ·rw[ho,Zuh]at h;simp only[v'w,z'f]at h;exact x'e.1 h.1.1.1.1.1
theorem Zng {x:Ins} {n l k:Int} (h:w'a x n l k=true) (ho:x.op=3∨x.op=4∨x.op=5∨x.op=6∨x.op=7∨x.op=9):0≤x.loc∧x.loc<l:=by
 unfold w'a at h
 rcases ho with ho|ho|ho|ho|ho|ho
 ·rw[ho,Zue]at h;simp only[v'w,z'f]at h;exact x'e.1 h.1.1.1.1.2
 ·rw[ho,ZvH]at h;simp only[v'w,z'f]at h;exact x'e.1 h.1.1.1.1.2
 ·rw[ho,Zuf]at h;simp only[v'w,z'f]at h;exact x'e.1 h.1.1.1.1.2
 ·rw[ho,Zug]at h;simp only[v'w,z'f]at h;exact x'e.1 h.1.1.1.1.2
 ·rw[ho,Zuh]at h;simp only[v'w,z'f]at h;exact x'e.1 h.1.1.1.1.2
 ·rw[ho,ZvI]at h;simp only[v'w,z'f]at h;exact x'e.1 h.1.1.1.1.2
theorem ZpG {x:Ins} {n l k:Int} (h:w'a x n l k=true) (ho:x.op=20∨x.op=21):0≤x.to∧x.to<k:=by
 unfold w'a at h
 rcases ho with ho|ho
 ·rw[ho,Zvi]at h;simp only[v'w,z'f]at h;exact x'e.1 h.1.1.1.2
 ·rw[ho,Zvj]at h;simp only[v'w,z'f]at h;exact x'e.1 h.1.1.1.2
theorem Rt.at {u:Un} {c:Cf} {m r:Int} (h:Rt u c m r) {i:Nat} (hi:i<c.pc.length): ∃x row b p,Zbs u c i x row b p:=by
 have hl:=h.lens
 have hu:=h.uhead
 have hir:i<u.regs.length:=by omega
 obtain⟨n,hn⟩: ∃n,u.regs[i]?=some n:=⟨_,z'c hir⟩
 obtain⟨rw,hrw⟩: ∃r,u.code[i]?=some r:=⟨_,z'c (by omega)⟩
 obtain⟨p,hp⟩: ∃p,c.pc[i]?=some p:=⟨_,z'c hi⟩
 obtain⟨row,hro⟩: ∃p,c.regs[i]?=some p:=⟨_,z'c (by omega)⟩
 obtain⟨b,hb⟩: ∃p,c.bufs[i]?=some p:=⟨_,z'c (by omega)⟩
 have ht:=h.thr hir
 simp only[Zgq,z'f,decide_eq_true_eq,z'g,hn,hrw,hp,hro,hb,z'y]at ht
 obtain⟨⟨⟨⟨h0,h1⟩,h2⟩,h3⟩,h4⟩:=ht
 obtain⟨q,rfl⟩: ∃q:Nat,p=(q:Int):=⟨p.toNat,by omega⟩
 obtain⟨x,hx⟩: ∃x,rw[q]?=some x:=⟨_,z'c (by omega)⟩
 have hrow:=h.row hir
 simp only[Za3,z'f,decide_eq_true_eq,z'g,hn,hrw,z'y,z'q]at hrow
 obtain⟨⟨⟨⟨⟨w0,w1⟩,w2⟩,w3⟩,w4⟩,w5⟩:=hrow
 have hrl:=h.okU.row rw (z'l hrw)
 have hins:=h.okU.ins rw (z'l hrw) x (z'l hx)
 have hk:x.op=22∨w'a x n u.init.length rw.length=true∧q+1<rw.length:=by
  rcases z'i (q+1) rw.length with hlt|hge
  ·refine .inr ⟨?_,hlt⟩
   have:=w5 q (z'U.2 (by omega))
   rwa [hx,z'y]at this
  ·left
   have:rw.length-1=q:=by omega
   rw[this,hx,z'y]at w4
   simp only[v'M,z'f,decide_eq_true_eq]at w4
   exact w4.1
 have hval: ∀l,0≤y'u u row l∧y'u u row l<u.md:=fun l=>ZnI (by omega) _ _ _ _
 refine⟨x,row,b,q,⟨⟨⟨rw,q,hp,hrw,by omega,by rw[z'e];exact hx⟩⟩,hro,hb,hins.1,hins.2⟩,hp,by omega,?_,rw,n,hrw,hn,hx,h2,hk⟩
 exact{
  okc:=h.okC.setP i _
  pc:=by simpa[setP]using hi
  reg:=hro
  buf:=hb
  e:=hins.1
  f:=hins.2
  r:=fun ho=>by
   rcases hk with hk|⟨hk,_⟩
   ·omega
   ·have:=Zs9 hk ho;omega
  l:=fun ho=>by
   rcases hk with hk|⟨hk,_⟩
   ·omega
   ·have:=Zng hk (by omega)
    show _∧_<(c.mem.length:Int)
    omega
  m:=fun n hn=>by
   have:=z'q.1 (show c.mem.all (fun n=>inB n u.md)=true from hl.2.2.2.2) n hn
   have:=x'e.1 this
   omega
  v:=by have:=hval x.e;omega
  md:=by omega}
theorem Zrm {m loc:Int} {b:List En}:(x'R m loc b).1.length≤b.length:=by
 unfold x'R
 cases z'2 m loc b with
 |none=>simp
 |some k=>simp[v'f];omega
theorem OkC.flush {c:Cf} (h:OkC c) (m t loc:Int):OkC (ZaE c m t loc):=by
 unfold ZaE
 cases hb:w'K c m t loc with
 |false=>exact h
 |true=>
  refine⟨h.pc,by simpa[y'3,x'X]using h.mem,h.regs,h.row,by simpa[y'3,x'X]using h.bufs,fun b hb=>?_⟩
  simp only[y'3,x'X]at hb
  rcases List.mem_or_eq_of_mem_set hb with h'|rfl
  ·exact h.buf b h'
  ·refine z'7 Zrm ?_
   rw[z'g]
   cases he:c.bufs[t.toNat]? with
   |none=>simp
   |some x=>exact h.buf x (z'l he)
theorem ZiA (c:Cf):v'c c c=true:=by simp[v'c]
open Go Go.Proofs Go.Vc Go.ChangeShapes Go.WideShapes Go.ChangeAt Go.RowKit Go.Joins
theorem Zuq:ownKnob Tryz.prog.godebug=none:=by kernel_rfl
theorem Zju {P:Program} {f:FuncId} {args:List D} (h:Pure P f args (bD true)) (w:World) (vs:List Value) (hr:RelL w (live [] (fun _=>False)) args vs):
  Calls P f vs.toArray w fun e w'=>e= .returned (.bool true)∧Below w.heap.size w w':=by
 refine(h.2 w (fun _=>False) vs ⟨fun b c hm=>(by cases hm),v'W,fun b hb=>(by cases hb),fun b hb=>hb.elim⟩ hr).mono ?_
 rintro e w' ⟨v,he,d,H',⟨rfl,rfl⟩,h1,h2,h3⟩
 have hv:v= .bool true:=h1
 subst hv
 exact⟨he,h3.os,h3.tape,h3.output,h3.size,fun k hk=>h3.block k hk (by simp[Heap.blocks])⟩
theorem v'r {α:Type} (f:α→List D) (Q:List D→Prop) (h: ∀r,Q r→ ∃x,r=f x): ∀(rows:List (List D)),(∀r,r∈rows→Q r)→ ∃b:List α,rows=b.map f
 |[],_=>⟨[],rfl⟩
 |r::rs,hr=>by
  obtain⟨b,rfl⟩:=v'r f Q h rs fun r hr'=>hr r (z'd _ hr')
  obtain⟨x,rfl⟩:=h r (hr r (z'z ..))
  exact⟨x::b,rfl⟩
theorem Zp0 {d:D} (h:Sh (.sl [.int .i64,.int .i64,.int .i64]) d): ∃l:List Opc,d=z'S l:=by
 obtain⟨rows,rfl,_,h⟩:=h
 obtain⟨l,rfl⟩:=v'r opR _ (fun r h=>by
  obtain⟨_,_,rfl,⟨n1,rfl,_⟩,_,_,rfl,⟨n2,rfl,_⟩,_,_,rfl,⟨n3,rfl,_⟩,h⟩:=h
  rw[ShL]at h;subst h
  exact⟨(n1,n2,n3),rfl⟩) rows h
 exact⟨l,rfl⟩
def ltB (n:Int):Bool:=(decide (n≥97)&&decide (n≤122))||((decide (n≥65)&&decide (n≤90))||decide (n=95))
def dgB (n:Int):Bool:=decide (n≥48)&&decide (n≤57)
def kws:List ByteArray:=[⟨#[109,111,100]⟩,⟨#[108,111,99]⟩,⟨#[116,104,114,101,97,100]⟩,⟨#[114,101,103]⟩,⟨#[115,107,105,112]⟩,⟨#[115,101,116]⟩,⟨#[108,111,97,100]⟩,⟨#[115,116,111,114,101]⟩,⟨#[99,97,115]⟩,⟨#[102,97,100,100]⟩,⟨#[120,99,104,103]⟩,⟨#[102,101,110,99,101]⟩,⟨#[97,119,97,105,116]⟩,⟨#[105,102]⟩,⟨#[101,108,115,101]⟩,⟨#[119,104,105,108,101]⟩,⟨#[108,111,111,112]⟩,⟨#[98,114,101,97,107]⟩,⟨#[102,111,114,97,108,108]⟩,⟨#[101,120,105,115,116,115]⟩,⟨#[97,108,119,97,121,115]⟩]
def kwB (s:ByteArray):Bool:=kws.any fun x=>decide (x=s)
def byT (s:ByteArray) (k:Nat):Int:=((s.data.toList.getD k 0).toNat:Int)
def nmB (s:ByteArray):Bool:=decide (1≤s.size)&&(decide (s.size≤16)&&(ltB (byT s 0)&&(!kwB s&&((List.range s.size).all fun k=>ltB (byT s k)||dgB (byT s k)))))
def isE (s:ByteArray):Bool:=decide (s=e0)
def ndB (x:Nod):Bool:=decide (0≤x.pl)&&(
 if x.op=1 then decide (0≤x.n)&&(decide (x.n≤9999)&&(isE x.nm&&isE x.inn))
 else if x.op=2∨x.op=3 then decide (x.n=0)&&(nmB x.nm&&isE x.inn)
 else if x.op=4 then decide (x.n=0)&&(nmB x.nm&&nmB x.inn)
 else decide (x.n=0)&&(isE x.nm&&isE x.inn))
def exB (l:List Nod):Bool:=decide (l.length≤200)&&(decide (l.length≠0)&&(decide (Zek l 0=l.length)&&(l.all ndB&&decide (w'u l l.length 0≤30))))
def ZhH (x:Nod):Bool:=decide (x.op=2)||(decide (x.op=3)||decide (x.op=4))
def v'y (l:List Nod):List Nod:=l.filter ZhH
def plB (l:List Nod):Bool:=((v'y l).all fun x=>decide (x.op=2))&&exB l
def Zag (k:Int):Option ByteArray:=
 if k=1 then some ⟨#[]⟩else
 if k=2 then some ⟨#[114,101]⟩else
 if k=3 then some ⟨#[114,108]⟩else
 if k=4 then some ⟨#[108,101]⟩else
 if k=5 then some ⟨#[114,108,101,102]⟩else
 if k=6 then some ⟨#[114,108,101]⟩else
 if k=7 then some ⟨#[114,108,101]⟩else
 if k=8 then some ⟨#[]⟩else
 if k=9 then some ⟨#[108,101,110]⟩else
 if k=10 then some ⟨#[101,98,120]⟩else
 if k=11 then some ⟨#[101,98]⟩else
 if k=12 then some ⟨#[98]⟩else
 if k=13 then some ⟨#[]⟩else
 none
def Zc4 (x:Sm):Bool:=match Zag x.kind with
 |none=>false
 |some p=>decide (0≤x.pl)&&((z'8 p 114 == nmB x.reg)&&((z'8 p 114||isE x.reg)&&((z'8 p 108 == nmB x.loc)&&((z'8 p 108||isE x.loc)&&
  ((match z'8 p 101 with|true=>plB x.e|false=>decide (x.e.length=0))&&((match z'8 p 102 with|true=>plB x.f|false=>decide (x.f.length=0))&&
  ((z'8 p 110|| !x.ne)&&((z'8 p 98||decide (x.body=0))&&(z'8 p 120||decide (x.els=0))))))))))
def smB (l:List Sm):Bool:=decide (l.length≤200)&&(wh l 0 l.length&&(l.all Zc4&&decide (sdF l l.length 0 l.length≤30)))
def in4 (n:Int):Bool:=decide (n≥0)&&decide (n≤9999)
def ZiI (l:List Nod):Bool:=((v'y l).all fun x=> !decide (x.op=2))&&exB l
def lvB (v:Lv):Bool:=nmB v.nm&&(in4 v.n&&decide (0≤v.pl))
def tdB (t:Td):Bool:=nmB t.nm&&(smB t.body&&(decide (0≤t.pl)&&t.regs.all nmB))
def cmB (c:Cm):Bool:=decide (1≤c.kind)&&(decide (c.kind≤3)&&(ZiI c.e&&decide (0≤c.pl)))
def pgB (p:Pg):Bool:=in4 p.md&&(p.locs.all lvB&&(p.ths.all tdB&&p.cms.all cmB))
def lcN (p:Pg):List ByteArray:=p.locs.map (·.nm)
def thN (p:Pg):List ByteArray:=p.ths.map (·.nm)
def lcE (p:Pg) (i:Nat):Int×Int:=
 if 6≤i then(12,(p.locs.getD i lv0).pl)else if ixF (lcN p) (p.locs.getD i lv0).nm<i then(10,(p.locs.getD i lv0).pl)else if (p.locs.getD i lv0).n≥p.md then(11,(p.locs.getD i lv0).pl)else(0,0)
def ZlB (p:Pg):Int×Int:=Zbf p.locs.length (lcE p)
def ndE (p:Pg) (regs:List ByteArray) (x:Nod):Int×Int:=
 if x.op=2∧ixF regs x.nm<0 then(9,x.pl)else if x.op=1∧x.n≥p.md then(11,x.pl)else(0,0)
def Zfx (p:Pg) (regs:List ByteArray) (l:List Nod):Int×Int:=Zbf l.length fun i=>ndE p regs (l.getD i y'e)
def lpB (l:List Sm) (k:Nat):Bool:=(List.range k).any fun i=>(decide ((l.getD i sm0).kind=11)||decide ((l.getD i sm0).kind=12))&&decide ((k:Int)≤i+(l.getD i sm0).body)
def Zay (a b:Int×Int):Int×Int:=if a.1=0 then b else a
def smE (p:Pg) (t:Td) (i:Nat):Int×Int:=
 if (t.body.getD i sm0).kind=13∧lpB t.body i=false then(13,(t.body.getD i sm0).pl)
 else if (isE (t.body.getD i sm0).reg=false∧ixF t.regs (t.body.getD i sm0).reg<0)∨(isE (t.body.getD i sm0).loc=false∧ixF (lcN p) (t.body.getD i sm0).loc<0)then(9,(t.body.getD i sm0).pl)
 else Zay (Zfx p t.regs (t.body.getD i sm0).e) (Zfx p t.regs (t.body.getD i sm0).f)
def bdE (p:Pg) (t:Td):Int×Int:=Zbf t.body.length (smE p t)
def rgB (p:Pg) (t:Td) (k:Nat):Bool:=decide (ixF t.regs (t.regs.getD k e0)<k)||decide (ixF (lcN p) (t.regs.getD k e0)≥0)
def tdE (p:Pg) (i:Nat):Int×Int:=
 if 4≤i then(12,(p.ths.getD i td0).pl)else if ixF (thN p) (p.ths.getD i td0).nm<i then(10,(p.ths.getD i td0).pl)else if 6<(p.ths.getD i td0).regs.length then(12,(p.ths.getD i td0).pl)
 else if (List.range (p.ths.getD i td0).regs.length).any (rgB p (p.ths.getD i td0))=true then(10,(p.ths.getD i td0).pl)else bdE p (p.ths.getD i td0)
def Zeu (p:Pg):Int×Int:=if p.ths.length=0 then(12,0)else Zbf p.ths.length (tdE p)
def cnE (p:Pg) (x:Nod):Int×Int:=
 if x.op=3∧ixF (lcN p) x.nm<0 then(9,x.pl)
 else if x.op=4∧(ixF (thN p) x.inn<0∨ixF (p.ths.getD (ixF (thN p) x.inn).toNat td0).regs x.nm<0)then(9,x.pl)
 else if x.op=1∧x.n≥p.md then(11,x.pl)else(0,0)
def cmE (p:Pg) (i:Nat):Int×Int:=
 if 8≤i then(12,(p.cms.getD i cm0).pl)else Zbf (p.cms.getD i cm0).e.length fun k=>cnE p ((p.cms.getD i cm0).e.getD k y'e)
def ZiJ (p:Pg):Int×Int:=Zbf p.cms.length (cmE p)
def w'P (p:Pg):Int×Int:=
 if pgB p=false then(8,0)else if p.md<2∨p.md>16 then(11,0)else Zay (ZlB p) (Zay (Zeu p) (ZiJ p))
def OkE (l:List Nod):Prop:=l.length≤1000
def OkS (l:List Sm):Prop:=l.length≤1000∧ ∀x,x∈l→OkE x.e∧OkE x.f
structure Zeg (p:Pg):Prop where
 locs:p.locs.length≤1000
 ths:p.ths.length≤1000
 cms:p.cms.length≤1000
 td: ∀t,t∈p.ths→t.regs.length≤1000∧OkS t.body
 cm: ∀c,c∈p.cms→OkE c.e
def mdF (l:List Nod) (lv:List Opc):Nat→Nat→List Opc
 |0,_=>[]
 |f+1,i=>if (l.getD i y'e).op≤4 then[lv.getD i (0,0,0)]
  else if (l.getD i y'e).op=5 then mdF l lv f (i+1)++[((l.getD i y'e).op,0,0)]
  else mdF l lv f (i+1)++(mdF l lv f (i+1+(w'B (l.drop (i+1)) 1).getD 0)++[((l.getD i y'e).op,0,0)])
def lfT (regs:List ByteArray) (x:Nod):Option Opc:=
 if x.op=1 then some (1,x.n,0)else if x.op=2 then(if ixF regs x.nm<0 then none else some (2,ixF regs x.nm,0))else if x.op=3∨x.op=4 then none else some (0,0,0)
def mkE (lf:Nod→Option Opc) (l:List Nod):List Opc×Bool:=if exB l=true∧(l.all fun x=>(lf x).isSome)=true then(mdF l (l.map fun x=>(lf x).getD (0,0,0)) l.length 0,true)else([],false)
def cdT (l:List Nod) (regs:List ByteArray):List Opc:=(mkE (lfT regs) l).1
def sz1 (x:Sm):Nat:=if x.kind=1 then 0 else if x.kind=10 then(if 0<x.els then 2 else 1)else if x.kind=11 then 2 else 1
def szF (l:List Sm) (a b:Nat):Nat:=((List.range' a (b-a)).map fun i=>sz1 (l.getD i sm0)).sum
def Zb7 (regs locs:List ByteArray) (x:Sm):Ins:=⟨x.kind,if isE x.reg=true then 0 else ixF regs x.reg,if isE x.loc=true then 0 else ixF locs x.loc,cdT x.e regs,cdT x.f regs,x.ne,0⟩
def jpI (n:Int):Ins:=⟨20,0,0,[],[],false,n⟩
def brI (e:List Opc) (n:Int):Ins:=⟨21,0,0,e,[],false,n⟩
def rw1 (g:Nat→Nat→Nat→Int→List Ins) (l:List Sm) (regs locs:List ByteArray) (a h:Nat) (out:Int):List Ins:=
 if (l.getD a sm0).kind=1 then[]else if (l.getD a sm0).kind=13 then[jpI out]
 else if (l.getD a sm0).kind=10 then(if (l.getD a sm0).els=0 then brI (cdT (l.getD a sm0).e regs) (h+1+szF l (a+1) (mdS (l.getD a sm0) a):Nat)::g (a+1) (mdS (l.getD a sm0) a) (h+1) out
  else(brI (cdT (l.getD a sm0).e regs) (h+2+szF l (a+1) (mdS (l.getD a sm0) a):Nat)::g (a+1) (mdS (l.getD a sm0) a) (h+1) out)++
   (jpI (h+2+szF l (a+1) (mdS (l.getD a sm0) a)+szF l (mdS (l.getD a sm0) a) (eeS (l.getD a sm0) a):Nat)::g (mdS (l.getD a sm0) a) (eeS (l.getD a sm0) a) (h+2+szF l (a+1) (mdS (l.getD a sm0) a)) out))
 else if (l.getD a sm0).kind=11 then brI (cdT (l.getD a sm0).e regs) (h+2+szF l (a+1) (mdS (l.getD a sm0) a):Nat)::(g (a+1) (mdS (l.getD a sm0) a) (h+1) (h+2+szF l (a+1) (mdS (l.getD a sm0) a):Nat)++[jpI h])
 else if (l.getD a sm0).kind=12 then g (a+1) (mdS (l.getD a sm0) a) h (h+1+szF l (a+1) (mdS (l.getD a sm0) a):Nat)++[jpI h]
 else[Zb7 regs locs (l.getD a sm0)]
def rwF (l:List Sm) (regs locs:List ByteArray):Nat→Nat→Nat→Nat→Int→List Ins
 |0,_,_,_,_=>[]
 |f+1,a,b,h,out=>if b≤a then[]else rw1 (rwF l regs locs f) l regs locs a h out++rwF l regs locs f (eeS (l.getD a sm0) a) b (h+(rw1 (rwF l regs locs f) l regs locs a h out).length) out
def thI (l:List Sm) (regs locs:List ByteArray):List Ins:=rwF l regs locs l.length 0 l.length 0 0++[⟨22,0,0,[],[],false,0⟩]
def mkU (p:Pg):Un:=if (w'P p).1=0 then⟨p.md,p.locs.map (·.n),p.ths.map (fun t=>(t.regs.length:Int)),p.ths.map fun t=>thI t.body t.regs (lcN p)⟩else⟨0,[],[],[]⟩
abbrev Zom:List Ty:=[.int .i64,.int .i64,.str,.str,.int .i64]
abbrev ZuQ:List Ty:=[.int .i64,.str,.str,.sl Zom,.sl Zom,.bool,.int .i64,.int .i64,.int .i64]
abbrev ZuT:List Ty:=[.str,.sl [.str],.sl ZuQ,.int .i64]
abbrev Zt8:List Ty:=[.str,.int .i64,.int .i64]
abbrev ZtQ:List Ty:=[.int .i64,.sl Zom,.int .i64]
theorem Zmb {d:D} (h:Sh (.sl Zom) d): ∃l:List Nod,d=w'5 l:=by
 obtain⟨rows,rfl,_,h⟩:=h
 obtain⟨l,rfl⟩:=v'r nodR _ (fun r h=>by
  obtain⟨_,_,rfl,⟨n1,rfl,_⟩,_,_,rfl,⟨n2,rfl,_⟩,_,_,rfl,⟨s1,rfl,_⟩,_,_,rfl,⟨s2,rfl,_⟩,_,_,rfl,⟨n3,rfl,_⟩,h⟩:=h
  rw[ShL]at h;subst h
  exact⟨⟨n1,n2,s1,s2,n3⟩,rfl⟩) rows h
 exact⟨l,rfl⟩
theorem Zty {d:D} (h:Sh (.sl [.str]) d): ∃l:List ByteArray,d=v't l:=by
 obtain⟨rows,rfl,_,h⟩:=h
 obtain⟨l,rfl⟩:=v'r (fun s:ByteArray=>[sD s]) _ (fun r h=>by
  obtain⟨_,_,rfl,⟨s,rfl,_⟩,h⟩:=h
  rw[ShL]at h;subst h
  exact⟨s,rfl⟩) rows h
 exact⟨l,rfl⟩
theorem ZuM {d:D} (h:Sh (.sl ZuQ) d): ∃l:List Sm,d=v'I l:=by
 obtain⟨rows,rfl,_,h⟩:=h
 obtain⟨l,rfl⟩:=v'r smR _ (fun r h=>by
  obtain⟨_,_,rfl,⟨n1,rfl,_⟩,_,_,rfl,⟨s1,rfl,_⟩,_,_,rfl,⟨s2,rfl,_⟩,_,_,rfl,h1,_,_,rfl,h2,_,_,rfl,⟨b,rfl⟩,_,_,rfl,⟨n2,rfl,_⟩,_,_,rfl,⟨n3,rfl,_⟩,_,_,rfl,⟨n4,rfl,_⟩,h⟩:=h
  rw[ShL]at h;subst h
  obtain⟨e,rfl⟩:=Zmb h1
  obtain⟨f,rfl⟩:=Zmb h2
  exact⟨⟨n1,s1,s2,e,f,b,n2,n3,n4⟩,rfl⟩) rows h
 exact⟨l,rfl⟩
theorem ZuN {d:D} (h:Sh (.sl ZuT) d): ∃l:List Td,d=ZuU l:=by
 obtain⟨rows,rfl,_,h⟩:=h
 obtain⟨l,rfl⟩:=v'r tdR _ (fun r h=>by
  obtain⟨_,_,rfl,⟨s1,rfl,_⟩,_,_,rfl,h1,_,_,rfl,h2,_,_,rfl,⟨n1,rfl,_⟩,h⟩:=h
  rw[ShL]at h;subst h
  obtain⟨e,rfl⟩:=Zty h1
  obtain⟨f,rfl⟩:=ZuM h2
  exact⟨⟨s1,e,f,n1⟩,rfl⟩) rows h
 exact⟨l,rfl⟩
theorem ZuL {d:D} (h:Sh (.sl Zt8) d): ∃l:List Lv,d=Zt9 l:=by
 obtain⟨rows,rfl,_,h⟩:=h
 obtain⟨l,rfl⟩:=v'r lvR _ (fun r h=>by
  obtain⟨_,_,rfl,⟨s1,rfl,_⟩,_,_,rfl,⟨n1,rfl,_⟩,_,_,rfl,⟨n2,rfl,_⟩,h⟩:=h
  rw[ShL]at h;subst h
  exact⟨⟨s1,n1,n2⟩,rfl⟩) rows h
 exact⟨l,rfl⟩
theorem ZuK {d:D} (h:Sh (.sl ZtQ) d): ∃l:List Cm,d=ZtR l:=by
 obtain⟨rows,rfl,_,h⟩:=h
 obtain⟨l,rfl⟩:=v'r cmR _ (fun r h=>by
  obtain⟨_,_,rfl,⟨n1,rfl,_⟩,_,_,rfl,h1,_,_,rfl,⟨n2,rfl,_⟩,h⟩:=h
  rw[ShL]at h;subst h
  obtain⟨e,rfl⟩:=Zmb h1
  exact⟨⟨n1,e,n2⟩,rfl⟩) rows h
 exact⟨l,rfl⟩
abbrev ZeA:List Ty:=[.int .i64,.sl Zt8,.sl ZuT,.sl ZtQ,.int .i64,.int .i64,.int .i64]
theorem ZhT {l:List D} (h:ShL ZeA l): ∃p m r b,l=pgC p++[iD m,iD r,iD b]:=by
 obtain⟨_,_,rfl,⟨md,rfl,_⟩,_,_,rfl,h1,_,_,rfl,h2,_,_,rfl,h3,_,_,rfl,⟨m,rfl,_⟩,_,_,rfl,⟨r,rfl,_⟩,_,_,rfl,⟨b,rfl,_⟩,h⟩:=h
 rw[ShL]at h;subst h
 obtain⟨ls,rfl⟩:=ZuL h1
 obtain⟨ts,rfl⟩:=ZuN h2
 obtain⟨cs,rfl⟩:=ZuK h3
 exact⟨⟨md,ls,ts,cs⟩,m,r,b,rfl⟩
end Go.Proofs.YthlkpnjjkgmlkaaGreat
