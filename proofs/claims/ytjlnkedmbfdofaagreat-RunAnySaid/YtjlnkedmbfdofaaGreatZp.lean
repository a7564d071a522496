/- Contracts: whether a case is right, and light; what is so of a right one. No condition. -/
import Derived.Test.YtjlnkedmbfdofaaGreatYi
import Derived.Test.YtjlnkedmbfdofaaGreatXe
import Derived.Test.YtjlnkedmbfdofaaGreatK2
import Derived.Test.YtjlnkedmbfdofaaGreatYh
import Derived.Test.YtjlnkedmbfdofaaGreatRows
import Derived.Test.YtjlnkedmbfdofaaGreatK1
import Derived.ProofKit
import Derived.OpenShut
import Derived.Lib.SmallJoins
namespace Go.Proofs.YtjlnkedmbfdofaaGreat
set_option linter.unusedSimpArgs false
set_option linter.unusedVariables false
set_option maxRecDepth 20000
open Go Go.Proofs Go.Vc
theorem Zfl {m r md lc:Int} {b:List En} (h:x'W m r md lc b=true) {e:En} (he:e∈b):0≤e.1∧e.1<lc∧0≤e.2∧e.2<md:=by
 simp only[x'W,z'b,z'h]at h
 obtain⟨i,hi⟩:=y'K he
 have:=h.1.2 i (z'J.2 (z's.1 hi).1)
 simp only[ZdM,Zia,hi,z'K,x'j,Bool.or_eq_false_iff,decide_eq_false_iff_not]at this
 omega
structure Rt (u:Un) (c:Cf) (m r:Int):Prop where
 okU:OkU u
 okC:OkC c
 rt:y'3 u c m r=true
section
variable {u : Un} {c : Cf} {m r : Int}
theorem Rt.head (h:Rt u c m r):Zeb u c=true:=by
 have:=h.rt;simp only[y'3,z'b]at this;exact this.1.1
theorem Rt.unit (h:Rt u c m r):Zca u=true:=by
 have:=h.head;simp only[Zeb,z'b]at this;exact this.1.1.1.1.1
theorem Rt.lens (h:Rt u c m r):c.pc.length=u.regs.length∧c.regs.length=u.regs.length∧c.bufs.length=u.regs.length∧c.mem.length=u.init.length∧y'G c.mem u.md=true:=by
 have:=h.head;simp only[Zeb,z'b,decide_eq_true_eq]at this
 exact⟨this.1.1.1.1.2,this.1.1.1.2,this.1.1.2,this.1.2,this.2⟩
theorem Rt.uhead (h:Rt u c m r):(2≤u.md∧u.md≤16)∧y'G u.init u.md=true∧u.init.length≤6∧(1≤u.regs.length∧u.regs.length≤4)∧u.code.length=u.regs.length:=by
 have:=h.unit;simp only[Zca,ZiK,z'b,decide_eq_true_eq]at this
 exact⟨⟨this.1.1.1.1.1.1.1,this.1.1.1.1.1.1.2⟩,this.1.1.1.1.1.2,this.1.1.1.1.2,⟨this.1.1.1.2,this.1.1.2⟩,this.1.2⟩
theorem Rt.thr (h:Rt u c m r) {t:Nat} (ht:t<u.regs.length):ZdK u c m r t=true:=by
 have:=h.rt;simp only[y'3,z'b,z'h]at this
 exact this.1.2 t (z'J.2 ht)
theorem Rt.tail (h:Rt u c m r):x'W m r u.md u.init.length []=true:=by
 have:=h.rt;simp only[y'3,z'b]at this;exact this.2
theorem Rt.row (h:Rt u c m r) {t:Nat} (ht:t<u.regs.length):ZiS (u.regs.getD t 0) u.init.length (u.code.getD t [])=true:=by
 have:=h.unit;simp only[Zca,z'b,z'h]at this
 exact this.2 t (z'J.2 ht)
theorem Rt.gate (h:Rt u c m r):(1≤m∧m≤3)∧(1≤r∧r≤4):=by
 have:=h.tail;simp only[x'W,ZbY,z'b,decide_eq_true_eq]at this
 omega
theorem Rt.locs (h:Rt u c m r):Zmv c:=by
 intro b hb e he
 obtain⟨i,hi⟩:=y'K hb
 have hl:=h.lens
 have hil:i<c.bufs.length:=(z's.1 hi).1
 have ht:=h.thr (t:=i) (by omega)
 simp only[ZdK,z'b,z'e,hi,z'K]at ht
 have:=Zfl ht.2 he
 omega
end
theorem Zno {md:Int} (hm:2≤md) {own mem:List Int} {all:List (List Int)} {l:List Opc} (h:Zi6 l md own all mem=true): ∀k,k≤l.length→ ∃s,RunI md own all mem l k s:=by
 simp only[Zi6,Zih,z'b,z'h]at h
 intro k
 induction k with
 |zero=>intro _;exact⟨[],RunI.zero (by simp_all)⟩
 |succ k ih=>
  intro hk
  obtain⟨s,hs⟩:=ih (by omega)
  obtain⟨x,hx⟩: ∃x,l[k]?=some x:=⟨_,z'l (by omega)⟩
  exact⟨_,(hs.next hm hx (by simp_all[z'F hx]) (by simp_all) (by simp_all) (by simp_all)).2⟩
theorem Zh7 {md:Int} (hm:2≤md) (own mem:List Int) (all:List (List Int)) (l:List Opc):0≤Zi7 l md own all mem∧Zi7 l md own all mem<md:=by
 unfold Zi7
 cases hv:Zi6 l md own all mem with
 |false=>exact⟨Int.le_refl _,show(0:Int)<md by omega⟩
 |true=>
  obtain⟨s,hs⟩:=Zno hm hv l.length (z'c _)
  have hr:=hs.run
  rw[List.drop_length]at hr
  simp only
  rw[←hr]
  exact w'n hs.inm (by omega) 0
structure Zmu (u:Un) (c:Cf) (i:Nat) (x:Ins) (row:List Int) (b:List En) (p:Nat):Prop where
 thr:Thr u c i x row b
 pc:c.pc[i]?=some (p:Int)
 pl:p≤100000
 fit:Fit u (setP c i ((p+1:Nat):Int)) i x row b
 kind: ∃rw n,u.code[i]?=some rw∧u.regs[i]?=some n∧rw[p]?=some x∧(row.length:Int)=n∧(x.op=22∨v'8 x n u.init.length rw.length=true∧p+1<rw.length)
theorem OkC.setP {c:Cf} (h:OkC c) (i:Nat) (n:Int):OkC (setP c i n):=⟨by simpa[Go.Proofs.YtjlnkedmbfdofaaGreat.setP]using h.pc,h.mem,h.regs,h.row,h.bufs,h.buf⟩
theorem Zos:ndF 2=some ⟨true,false,true,false,false,false⟩:=rfl
theorem Zm1:ndF 3=some ⟨true,true,false,false,false,false⟩:=rfl
theorem Zot:ndF 4=some ⟨false,true,true,false,false,false⟩:=rfl
theorem Zm2:ndF 5=some ⟨true,true,true,true,false,false⟩:=rfl
theorem Zm3:ndF 6=some ⟨true,true,true,false,false,false⟩:=rfl
theorem Zm4:ndF 7=some ⟨true,true,true,false,false,false⟩:=rfl
theorem Zou:ndF 9=some ⟨false,true,true,false,true,false⟩:=rfl
theorem ZnS:ndF 20=some ⟨false,false,false,false,false,true⟩:=rfl
theorem ZnT:ndF 21=some ⟨false,false,true,false,false,true⟩:=rfl
theorem Zmd {x:Ins} {n l k:Int} (h:v'8 x n l k=true) (ho:x.op=2∨x.op=3∨x.op=5∨x.op=6∨x.op=7):0≤x.reg∧x.reg<n:=by
 unfold v'8 at h
 rcases ho with ho|ho|ho|ho|ho
 ·rw[ho,Zos]at h;simp only[x'q,z'b]at h;exact y'I.1 h.1.1.1.1.1
 ·rw[ho,Zm1]at h;simp only[x'q,z'b]at h;exact y'I.1 h.1.1.1.1.1
 ·rw[ho,Zm2]at h;simp only[x'q,z'b]at h;exact y'I.1 h.1.1.1.1.1
 ·rw[ho,Zm3]at h;simp only[x'q,z'b]at h;exact y'I.1 h.1.1.1.1.1
 ·rw[ho,Zm4]at h;simp only[x'q,z'b]at h;exact y'I.1 h.1.1.1.1.1
theorem ZhN {x:Ins} {n l k:Int} (h:v'8 x n l k=true) (ho:x.op=3∨x.op=4∨x.op=5∨x.op=6∨x.op=7∨x.op=9):0≤x.loc∧x.loc<l:=by
 unfold v'8 at h
 rcases ho with ho|ho|ho|ho|ho|ho
 ·rw[ho,Zm1]at h;simp only[x'q,z'b]at h;exact y'I.1 h.1.1.1.1.2
 ·rw[ho,Zot]at h;simp only[x'q,z'b]at h;exact y'I.1 h.1.1.1.1.2
 ·rw[ho,Zm2]at h;simp only[x'q,z'b]at h;exact y'I.1 h.1.1.1.1.2
 ·rw[ho,Zm3]at h;simp only[x'q,z'b]at h;exact y'I.1 h.1.1.1.1.2
 ·rw[ho,Zm4]at h;simp only[x'q,z'b]at h;exact y'I.1 h.1.1.1.1.2
 ·rw[ho,Zou]at h;simp only[x'q,z'b]at h;exact y'I.1 h.1.1.1.1.2
theorem ZjQ {x:Ins} {n l k:Int} (h:v'8 x n l k=true) (ho:x.op=20∨x.op=21):0≤x.to∧x.to<k:=by
 unfold v'8 at h
 rcases ho with ho|ho
 ·rw[ho,ZnS]at h;simp only[x'q,z'b]at h;exact y'I.1 h.1.1.1.2
 ·rw[ho,ZnT]at h;simp only[x'q,z'b]at h;exact y'I.1 h.1.1.1.2
theorem Rt.at {u:Un} {c:Cf} {m r:Int} (h:Rt u c m r) {i:Nat} (hi:i<c.pc.length): ∃x row b p,Zmu u c i x row b p:=by
 have hl:=h.lens
 have hu:=h.uhead
 have hir:i<u.regs.length:=by omega
 obtain⟨n,hn⟩: ∃n,u.regs[i]?=some n:=⟨_,z'l hir⟩
 obtain⟨rw,hrw⟩: ∃r,u.code[i]?=some r:=⟨_,z'l (by omega)⟩
 obtain⟨p,hp⟩: ∃p,c.pc[i]?=some p:=⟨_,z'l hi⟩
 obtain⟨row,hro⟩: ∃p,c.regs[i]?=some p:=⟨_,z'l (by omega)⟩
 obtain⟨b,hb⟩: ∃p,c.bufs[i]?=some p:=⟨_,z'l (by omega)⟩
 have ht:=h.thr hir
 simp only[ZdK,z'b,decide_eq_true_eq,z'e,hn,hrw,hp,hro,hb,z'K]at ht
 obtain⟨⟨⟨⟨h0,h1⟩,h2⟩,h3⟩,h4⟩:=ht
 obtain⟨q,rfl⟩: ∃q:Nat,p=(q:Int):=⟨p.toNat,by omega⟩
 obtain⟨x,hx⟩: ∃x,rw[q]?=some x:=⟨_,z'l (by omega)⟩
 have hrow:=h.row hir
 simp only[ZiS,z'b,decide_eq_true_eq,z'e,hn,hrw,z'K,z'h]at hrow
 obtain⟨⟨⟨⟨⟨w0,w1⟩,w2⟩,w3⟩,w4⟩,w5⟩:=hrow
 have hrl:=h.okU.row rw (z'F hrw)
 have hins:=h.okU.ins rw (z'F hrw) x (z'F hx)
 have hk:x.op=22∨v'8 x n u.init.length rw.length=true∧q+1<rw.length:=by
  rcases z't (q+1) rw.length with hlt|hge
  ·refine .inr ⟨?_,hlt⟩
   have:=w5 q (z'J.2 (by omega))
   rwa [hx,z'K]at this
  ·left
   have:rw.length-1=q:=by omega
   rw[this,hx,z'K]at w4
   simp only[Zlf,z'b,decide_eq_true_eq]at w4
   exact w4.1
 have hval: ∀l,0≤w'A u row l∧w'A u row l<u.md:=fun l=>Zh7 (by omega) _ _ _ _
 refine⟨x,row,b,q,⟨⟨⟨rw,q,hp,hrw,by omega,by rw[z'D];exact hx⟩⟩,hro,hb,hins.1,hins.2⟩,hp,by omega,?_,rw,n,hrw,hn,hx,h2,hk⟩
 exact{
  okc:=h.okC.setP i _
  pc:=by simpa[setP]using hi
  reg:=hro
  buf:=hb
  e:=hins.1
  f:=hins.2
  r:=fun ho=>by
   rcases hk with hk|⟨hk,_⟩
   ·omega
   ·have:=Zmd hk ho;omega
  l:=fun ho=>by
   rcases hk with hk|⟨hk,_⟩
   ·omega
   ·have:=ZhN hk (by omega)
    show _∧_<(c.mem.length:Int)
    omega
  m:=fun n hn=>by
   have:=z'h.1 (show c.mem.all (fun n=>inB n u.md)=true from hl.2.2.2.2) n hn
   have:=y'I.1 this
   omega
  v:=by have:=hval x.e;omega
  md:=by omega}
attribute [local irreducible] z'Z VCg VCw VCx
def Zdn (u:Un) (c:Cf) (m r t:Int):Cf:=match enT u c m r t with
 |true=>match ZeR u c t.toNat with
  |some x=>Zbd u (setP c t.toNat (c.pc.getD t.toNat 0+1)) m t.toNat x (c.regs.getD t.toNat []) (c.bufs.getD t.toNat [])
  |none=>c
 |false=>c
theorem ZlJ {u:Un} {c:Cf} {m r:Int} {i:Nat} {x:Ins} {row:List Int} {b:List En} {p:Nat} (h:Zmu u c i x row b p):Zdn u c m r (i:Nat)=Zmx u c m i x row b p (enT u c m r (i:Nat)):=by
 unfold Zdn Zmx
 cases enT u c m r (i:Nat)with
 |false=>rfl
 |true=>
  simp only[z'D,h.thr.at_.ins,z'e,h.pc,h.thr.reg,h.thr.buf,z'K]
  rfl
theorem ZlK {u:Un} {c:Cf} {m r t:Int} (h:enT u c m r t=false):Zdn u c m r t=c:=by unfold Zdn;rw[h]
theorem ZkS {m loc:Int} {b:List En}:(ZaC m loc b).1.length≤b.length:=by
 unfold ZaC
 cases v'N m loc b with
 |none=>simp
 |some k=>simp[v'e];omega
theorem OkC.flush {c:Cf} (h:OkC c) (m t loc:Int):OkC (Zcg c m t loc):=by
 unfold Zcg
 cases hb:ZdQ c m t loc with
 |false=>exact h
 |true=>
  refine⟨h.pc,by simpa[ZaH,ZcI]using h.mem,h.regs,h.row,by simpa[ZaH,ZcI]using h.bufs,fun b hb=>?_⟩
  simp only[ZaH,ZcI]at hb
  rcases List.mem_or_eq_of_mem_set hb with h'|rfl
  ·exact h.buf b h'
  ·refine z'E ZkS ?_
   rw[z'e]
   cases he:c.bufs[t.toNat]? with
   |none=>simp
   |some x=>exact h.buf x (z'F he)
section
variable {u : Un} {c : Cf} {m : Int} {i : Nat} {x : Ins} {row : List Int} {b : List En}
end
open Go Go.Proofs Go.Vc Go.ChangeShapes Go.WideShapes Go.ChangeAt Go.RowKit Go.Joins
theorem Zow:ownKnob Tryz.prog.godebug=none:=by kernel_rfl
theorem Zjd {P:Program} {f:FuncId} {args:List D} (h:Pure P f args (bD true)) (w:World) (vs:List Value) (hr:RelL w (live [] (fun _=>False)) args vs):
  Calls P f vs.toArray w fun e w'=>e= .returned (.bool true)∧Below w.heap.size w w':=by
 refine(h.2 w (fun _=>False) vs ⟨fun b c hm=>(by cases hm),w'l,fun b hb=>(by cases hb),fun b hb=>hb.elim⟩ hr).mono ?_
 rintro e w' ⟨v,he,d,H',⟨rfl,rfl⟩,h1,h2,h3⟩
 have hv:v= .bool true:=h1
 subst hv
 exact⟨he,h3.os,h3.tape,h3.output,h3.size,fun k hk=>h3.block k hk (by simp[Heap.blocks])⟩
end Go.Proofs.YtjlnkedmbfdofaaGreat
