/- Contracts: whether a case is right, and light; what is so of a right one. No condition. -/
import Derived.Test.YtfneeacgkdhldaaGreatYq
import Derived.Test.YtfneeacgkdhldaaGreatXk
import Derived.Test.YtfneeacgkdhldaaGreatK2
namespace Go.Proofs.YtfneeacgkdhldaaGreat
set_option maxHeartbeats 16000000
set_option linter.unusedSimpArgs false
set_option linter.unusedVariables false
set_option maxRecDepth 20000
open Go Go.Proofs Go.Vc
theorem ZcJ {u:Un} (h:Zag u=true):OkU u:=by
 simp only[Zag,Zay,Zdb,z'i,decide_eq_true_eq,z'I]at h
 obtain⟨⟨⟨h1,h2⟩,h3⟩,h4⟩:=h
 exact⟨by omega,by omega,by omega,fun r hr=>by have:=(h4 r hr).1;omega,fun r hr x hx=>by have:=(h4 r hr).2 x hx;omega⟩
theorem ZgT {m r md lc:Int} {b:List En} (h:v'M m r md lc b=true) {e:En} (he:e∈b):0≤e.1∧e.1<lc∧0≤e.2∧e.2<md:=by
 simp only[v'M,z'i,z'I]at h
 obtain⟨i,hi⟩:=y'S he
 have:=h.1.2 i (z'G.2 (z'c.1 hi).1)
 simp only[Zft,ZjG,hi,z'L,z'N,Bool.or_eq_false_iff,decide_eq_false_iff_not]at this
 omega
structure Rt (u:Un) (c:Cf) (m r:Int):Prop where
 okU:OkU u
 okC:OkC c
 rt:w'M u c m r=true
section
variable {u : Un} {c : Cf} {m r : Int}
theorem Rt.head (h:Rt u c m r):ZfH u c=true:=by
 have:=h.rt;simp only[w'M,z'i]at this;exact this.1.1
theorem Rt.unit (h:Rt u c m r):y't u=true:=by
 have:=h.head;simp only[ZfH,z'i]at this;exact this.1.1.1.1.1
theorem Rt.lens (h:Rt u c m r):c.pc.length=u.regs.length∧c.regs.length=u.regs.length∧c.bufs.length=u.regs.length∧c.mem.length=u.init.length∧y'W c.mem u.md=true:=by
 have:=h.head;simp only[ZfH,z'i,decide_eq_true_eq]at this
 exact⟨this.1.1.1.1.2,this.1.1.1.2,this.1.1.2,this.1.2,this.2⟩
theorem Rt.uhead (h:Rt u c m r):(2≤u.md∧u.md≤16)∧y'W u.init u.md=true∧u.init.length≤6∧(1≤u.regs.length∧u.regs.length≤4)∧u.code.length=u.regs.length:=by
 have:=h.unit;simp only[y't,w'H,z'i,decide_eq_true_eq]at this
 exact⟨⟨this.1.1.1.1.1.1.1,this.1.1.1.1.1.1.2⟩,this.1.1.1.1.1.2,this.1.1.1.1.2,⟨this.1.1.1.2,this.1.1.2⟩,this.1.2⟩
theorem Rt.thr (h:Rt u c m r) {t:Nat} (ht:t<u.regs.length):Zfm u c m r t=true:=by
 have:=h.rt;simp only[w'M,z'i,z'I]at this
 exact this.1.2 t (z'G.2 ht)
theorem Rt.tail (h:Rt u c m r):v'M m r u.md u.init.length []=true:=by
 have:=h.rt;simp only[w'M,z'i]at this;exact this.2
theorem Rt.row (h:Rt u c m r) {t:Nat} (ht:t<u.regs.length):v'D (u.regs.getD t 0) u.init.length (u.code.getD t [])=true:=by
 have:=h.unit;simp only[y't,z'i,z'I]at this
 exact this.2 t (z'G.2 ht)
theorem Rt.gate (h:Rt u c m r):(1≤m∧m≤3)∧(1≤r∧r≤4):=by
 have:=h.tail;simp only[v'M,ZcG,z'i,decide_eq_true_eq]at this
 omega
theorem Rt.locs (h:Rt u c m r):Zhl c:=by
 intro b hb e he
 obtain⟨i,hi⟩:=y'S hb
 have hl:=h.lens
 have hil:i<c.bufs.length:=(z'c.1 hi).1
 have ht:=h.thr (t:=i) (by omega)
 simp only[Zfm,z'i,z'e,hi,z'L]at ht
 have:=ZgT ht.2 he
 omega
end
theorem ZgP (c:Cf) (hc:OkC c):Pure Tryz.prog 38 [.agg (cfC c)] (.agg (cfC c)):=
 Fun.fz ((w'L c hc).mono fun d H' ⟨q,h1,h2,h3⟩=>by
  rw[h2,h3]
  exact⟨_,rfl,OC.fzL (X:=[]) h1 fun y hy=>hy⟩)
theorem ZpG {md:Int} (hm:2≤md) {own mem:List Int} {all:List (List Int)} {l:List Opc} (h:v'V l md own all mem=true): ∀k,k≤l.length→ ∃s,RunI md own all mem l k s:=by
 simp only[v'V,y'1,z'i,z'I]at h
 intro k
 induction k with
 |zero=>intro _;exact⟨[],RunI.zero (by simp_all)⟩
 |succ k ih=>
  intro hk
  obtain⟨s,hs⟩:=ih (by omega)
  obtain⟨x,hx⟩: ∃x,l[k]?=some x:=⟨_,z'b (by omega)⟩
  exact⟨_,(hs.next hm hx (by simp_all[z'h hx]) (by simp_all) (by simp_all) (by simp_all)).2⟩
theorem Zjw {md:Int} (hm:2≤md) (own mem:List Int) (all:List (List Int)) (l:List Opc):0≤Zc2 l md own all mem∧Zc2 l md own all mem<md:=by
 unfold Zc2
 cases hv:v'V l md own all mem with
 |false=>exact⟨Int.le_refl _,show(0:Int)<md by omega⟩
 |true=>
  obtain⟨s,hs⟩:=ZpG hm hv l.length (z'w _)
  have hr:=hs.run
  rw[List.drop_length]at hr
  simp only
  rw[←hr]
  exact Zav hs.inm (by omega) 0
structure Za0 (u:Un) (c:Cf) (i:Nat) (x:Ins) (row:List Int) (b:List En) (p:Nat):Prop where
 thr:Thr u c i x row b
 pc:c.pc[i]?=some (p:Int)
 pl:p≤100000
 fit:Fit u (setP c i ((p+1:Nat):Int)) i x row b
 kind: ∃rw n,u.code[i]?=some rw∧u.regs[i]?=some n∧rw[p]?=some x∧(row.length:Int)=n∧(x.op=22∨x'V x n u.init.length rw.length=true∧p+1<rw.length)
theorem OkC.setP {c:Cf} (h:OkC c) (i:Nat) (n:Int):OkC (setP c i n):=⟨by simpa[Go.Proofs.YtfneeacgkdhldaaGreat.setP]using h.pc,h.mem,h.regs,h.row,h.bufs,h.buf⟩
theorem Zqj:ndF 2=some ⟨true,false,true,false,false,false⟩:=rfl
theorem Zpn:ndF 3=some ⟨true,true,false,false,false,false⟩:=rfl
theorem Zqk:ndF 4=some ⟨false,true,true,false,false,false⟩:=rfl
theorem Zpo:ndF 5=some ⟨true,true,true,true,false,false⟩:=rfl
theorem Zpp:ndF 6=some ⟨true,true,true,false,false,false⟩:=rfl
theorem Zpq:ndF 7=some ⟨true,true,true,false,false,false⟩:=rfl
theorem Zql:ndF 9=some ⟨false,true,true,false,true,false⟩:=rfl
theorem Zp0:ndF 20=some ⟨false,false,false,false,false,true⟩:=rfl
theorem Zp1:ndF 21=some ⟨false,false,true,false,false,true⟩:=rfl
theorem Zod {x:Ins} {n l k:Int} (h:x'V x n l k=true) (ho:x.op=2∨x.op=3∨x.op=5∨x.op=6∨x.op=7):0≤x.reg∧x.reg<n:=by
 unfold x'V at h
 rcases ho with ho|ho|ho|ho|ho
 ·rw[ho,Zqj]at h;simp only[x'C,z'i]at h;exact x'i.1 h.1.1.1.1.1
 ·rw[ho,Zpn]at h;simp only[x'C,z'i]at h;exact x'i.1 h.1.1.1.1.1
 ·rw[ho,Zpo]at h;simp only[x'C,z'i]at h;exact x'i.1 h.1.1.1.1.1
 ·rw[ho,Zpp]at h;simp only[x'C,z'i]at h;exact x'i.1 h.1.1.1.1.1
 ·rw[ho,Zpq]at h;simp only[x'C,z'i]at h;exact x'i.1 h.1.1.1.1.1
theorem Zja {x:Ins} {n l k:Int} (h:x'V x n l k=true) (ho:x.op=3∨x.op=4∨x.op=5∨x.op=6∨x.op=7∨x.op=9):0≤x.loc∧x.loc<l:=by
 unfold x'V at h
 rcases ho with ho|ho|ho|ho|ho|ho
 ·rw[ho,Zpn]at h;simp only[x'C,z'i]at h;exact x'i.1 h.1.1.1.1.2
 ·rw[ho,Zqk]at h;simp only[x'C,z'i]at h;exact x'i.1 h.1.1.1.1.2
 ·rw[ho,Zpo]at h;simp only[x'C,z'i]at h;exact x'i.1 h.1.1.1.1.2
 ·rw[ho,Zpp]at h;simp only[x'C,z'i]at h;exact x'i.1 h.1.1.1.1.2
 ·rw[ho,Zpq]at h;simp only[x'C,z'i]at h;exact x'i.1 h.1.1.1.1.2
 ·rw[ho,Zql]at h;simp only[x'C,z'i]at h;exact x'i.1 h.1.1.1.1.2
theorem Zk7 {x:Ins} {n l k:Int} (h:x'V x n l k=true) (ho:x.op=20∨x.op=21):0≤x.to∧x.to<k:=by
 unfold x'V at h
 rcases ho with ho|ho
 ·rw[ho,Zp0]at h;simp only[x'C,z'i]at h;exact x'i.1 h.1.1.1.2
 ·rw[ho,Zp1]at h;simp only[x'C,z'i]at h;exact x'i.1 h.1.1.1.2
theorem Rt.at {u:Un} {c:Cf} {m r:Int} (h:Rt u c m r) {i:Nat} (hi:i<c.pc.length): ∃x row b p,Za0 u c i x row b p:=by
 have hl:=h.lens
 have hu:=h.uhead
 have hir:i<u.regs.length:=by omega
 obtain⟨n,hn⟩: ∃n,u.regs[i]?=some n:=⟨_,z'b hir⟩
 obtain⟨rw,hrw⟩: ∃r,u.code[i]?=some r:=⟨_,z'b (by omega)⟩
 obtain⟨p,hp⟩: ∃p,c.pc[i]?=some p:=⟨_,z'b hi⟩
 obtain⟨row,hro⟩: ∃p,c.regs[i]?=some p:=⟨_,z'b (by omega)⟩
 obtain⟨b,hb⟩: ∃p,c.bufs[i]?=some p:=⟨_,z'b (by omega)⟩
 have ht:=h.thr hir
 simp only[Zfm,z'i,decide_eq_true_eq,z'e,hn,hrw,hp,hro,hb,z'L]at ht
 obtain⟨⟨⟨⟨h0,h1⟩,h2⟩,h3⟩,h4⟩:=ht
 obtain⟨q,rfl⟩: ∃q:Nat,p=(q:Int):=⟨p.toNat,by omega⟩
 obtain⟨x,hx⟩: ∃x,rw[q]?=some x:=⟨_,z'b (by omega)⟩
 have hrow:=h.row hir
 simp only[v'D,z'i,decide_eq_true_eq,z'e,hn,hrw,z'L,z'I]at hrow
 obtain⟨⟨⟨⟨⟨w0,w1⟩,w2⟩,w3⟩,w4⟩,w5⟩:=hrow
 have hrl:=h.okU.row rw (z'h hrw)
 have hins:=h.okU.ins rw (z'h hrw) x (z'h hx)
 have hk:x.op=22∨x'V x n u.init.length rw.length=true∧q+1<rw.length:=by
  rcases z'g (q+1) rw.length with hlt|hge
  ·refine .inr ⟨?_,hlt⟩
   have:=w5 q (z'G.2 (by omega))
   rwa [hx,z'L]at this
  ·left
   have:rw.length-1=q:=by omega
   rw[this,hx,z'L]at w4
   simp only[w'G,z'i,decide_eq_true_eq]at w4
   exact w4.1
 have hval: ∀l,0≤z'3 u row l∧z'3 u row l<u.md:=fun l=>Zjw (by omega) _ _ _ _
 refine⟨x,row,b,q,⟨⟨⟨rw,q,hp,hrw,by omega,by rw[z'f];exact hx⟩⟩,hro,hb,hins.1,hins.2⟩,hp,by omega,?_,rw,n,hrw,hn,hx,h2,hk⟩
 exact{
  okc:=h.okC.setP i _
  pc:=by simpa[setP]using hi
  reg:=hro
  buf:=hb
  e:=hins.1
  f:=hins.2
  r:=fun ho=>by
   rcases hk with hk|⟨hk,_⟩
   ·omega
   ·have:=Zod hk ho;omega
  l:=fun ho=>by
   rcases hk with hk|⟨hk,_⟩
   ·omega
   ·have:=Zja hk (by omega)
    show _∧_<(c.mem.length:Int)
    omega
  m:=fun n hn=>by
   have:=z'I.1 (show c.mem.all (fun n=>inB n u.md)=true from hl.2.2.2.2) n hn
   have:=x'i.1 this
   omega
  v:=by have:=hval x.e;omega
  md:=by omega}
attribute [local irreducible] y'5 VCg VCw VCx
def Zb2 (u:Un) (c:Cf) (m r t:Int):Cf:=match enT u c m r t with
 |true=>match Zgg u c t.toNat with
  |some x=>y'R u (setP c t.toNat (c.pc.getD t.toNat 0+1)) m t.toNat x (c.regs.getD t.toNat []) (c.bufs.getD t.toNat [])
  |none=>c
 |false=>c
theorem Zf7 {u:Un} {c:Cf} {m r:Int} {i:Nat} {x:Ins} {row:List Int} {b:List En} {p:Nat} (h:Za0 u c i x row b p):Zb2 u c m r (i:Nat)=ZlP u c m i x row b p (enT u c m r (i:Nat)):=by
 unfold Zb2 ZlP
 cases enT u c m r (i:Nat)with
 |false=>rfl
 |true=>
  simp only[z'f,h.thr.at_.ins,z'e,h.pc,h.thr.reg,h.thr.buf,z'L]
  rfl
theorem Zer {u:Un} {c:Cf} {m r t:Int} (h:enT u c m r t=false):Zb2 u c m r t=c:=by unfold Zb2;rw[h]
theorem ZpW {u:Un} {c:Cf} {m r:Int} (h:Rt u c m r) (k t:Int):Pure Tryz.prog 153 [.agg (unC u),.agg (cfC c),iD m,iD k,iD t] (bD (enT u c m k t)):=by
 by_cases ht:t<0∨t≥c.pc.length
 ·exact ZjA u c m k t ht
 obtain⟨i,rfl⟩: ∃i:Nat,t=(i:Int):=⟨t.toNat,by omega⟩
 obtain⟨x,row,b,p,ha⟩:=h.at (i:=i) (by omega)
 exact Zjz u c h.okC m k ha.thr
theorem ZoV (u:Un) (c:Cf) (hc:OkC c) (m r t:Int) (h:t<0∨t≥c.pc.length):
  Fun Tryz.prog 152 [.agg (unC u),.agg (cfC c),iD m,iD r,iD t] [] false (fun d H'=> ∃q:OC,q.ok c∧d= .tup [.agg (q.cs c),bD false]∧H'=q.h c []):=by
 have cc:=Zes c hc
 refine Fun.of T [.cell 10 51,.tmp 11] Tryz.func152 rfl Tryz.ntmps152 Tryz.results152 rfl (by kernel_rfl) ?_
 repeat' first|refine vb (t:=25) rfl rfl rfl rfl ?_|refine vb (t:=51) rfl rfl rfl rfl ?_|refine VC.drawS (id:=1) (by kernel_rfl) ?_|refine VCd.group T (s:=0) 6 11 rfl rfl (by kernel_rfl) (by kernel_rfl) (by kernel_rfl) ?_;(try simp only[y'o,Nat.reduceSub])|refine VCg.nil T ?_;simp only[y'4,WB]|apply VCg.step T rfl rfl;focus((try simp (disch:=omega) only[go_sem,Nat.reduceBEq,Nat.reduceAdd,Nat.reduceLeDiff]);(exact rfl))|refine VCg.ownx T rfl rfl rfl rfl (cc) rfl ?_|refine vs T rfl fun K hK=>?_;(try simp (disch:=omega) only[go_sem,Nat.reduceAdd]);(first|refine hK _ _ ?_;clear hK K|intro bq hbq;(try simp only[HB]at hbq);refine hK _ _ ?_;clear hK K)|refine st rfl ?_|refine nl ?_
 rintro _ _ ⟨q,hq,rfl,rfl⟩ hap
 have cn:=Znb u c m r t h
 have hfz:FzL ((bq,.cells 51 4 [.gs none 0,.gs none 0,.gs none 0,.gs none 0])::q.h c []) [.agg (unC u),.agg (cfC c),iD m,iD r,iD t] [.agg (unC u),.agg (q.cs c),iD m,iD r,iD t]:=
  z't (Fz.refl _ _) (z't ⟨_,rfl,OC.fzL (X:=[]) hq fun y hy=>z'd _ hy⟩ (FzL.refl _ _))
 refine VCd.weak (Weak.perm (H':=(bq,.cells 51 4 [.gs none 0,.gs none 0,.gs none 0,.gs none 0])::q.h c []) (y'b fun a=>by simp only[z'V,z'6,y'a];omega)) ?_
 repeat' first|refine VCd.tail (f:=11) (by kernel_rfl) ?_;(try simp only[y'I,y'o])|refine VCd.group T (s:=6) 11 11 rfl rfl (by kernel_rfl) (by kernel_rfl) (by kernel_rfl) ?_;(try simp only[y'I,y'o,Nat.reduceSub])|refine gn ?_|apply VCg.step T rfl rfl;focus((try simp (disch:=omega) only[go_sem,Nat.reduceBEq]);(first|exact rfl|refine Op1.lend rfl rfl (cn) (hfz) (.inr rfl) ?_;exact⟨rfl,rfl⟩))|refine vs T rfl fun K hK=>?_;(try simp (disch:=omega) only[go_sem,Nat.reduceBEq,Nat.reduceAdd,Nat.reduceLeDiff,z'r]);(first|refine hK _ _ ?_;clear hK K|skip)|refine st rfl ?_|refine sc rfl ?_|refine nl ?_|refine ov ?_
 refine Op1.callx rfl rfl cc rfl (fun q2 hq2=>?_)
 refine hK _ _ ?_
 clear hK K
 refine vo ?_
 refine VCo.weak (Weak.perm (H':=(bq,.cells 51 4 [.gs none 0,.gs none 0,.gs none 0,.gs none 0])::(q2.h c []++q.h c [])) (y'b fun a=>by simp only[z'V,z'6,y'a];omega)) ?_
 repeat' first|refine vs T rfl fun K hK=>?_;(try simp (disch:=omega) only[go_sem,Nat.reduceBEq,Nat.reduceAdd,Nat.reduceLeDiff,OC.cs]);(refine hK _ _ ?_;clear hK K)|refine st rfl ?_|refine nl ?_|refine ov ?_
 exact x'g T rfl (by(try simp (disch:=omega) only[hget_ne,hget_eq]);rfl) rfl rfl rfl ((List.sublist_append_left _ _).trans (z'5 _ _)) ⟨q2,hq2,rfl,rfl⟩
theorem Znl {u:Un} {c:Cf} {m r:Int} (h:Rt u c m r) (t:Int):
  Fun Tryz.prog 152 [.agg (unC u),.agg (cfC c),iD m,iD r,iD t] [] false (fun d H'=> ∃q:OC,q.ok (Zb2 u c m r t)∧d= .tup [.agg (q.cs (Zb2 u c m r t)),bD (enT u c m r t)]∧H'=q.h (Zb2 u c m r t) []):=by
 by_cases ht:t<0∨t≥c.pc.length
 ·have hn:=Zd4 (u:=u) (m:=m) (r:=r) ht
  rw[Zer hn,hn]
  exact ZoV u c h.okC m r t ht
 obtain⟨i,rfl⟩: ∃i:Nat,t=(i:Int):=⟨t.toNat,by omega⟩
 obtain⟨x,row,b,p,ha⟩:=h.at (i:=i) (by omega)
 rw[Zf7 ha]
 have:=ZoW u c h.okC m r i x row b ha.thr p ha.pc ha.pl ha.fit
 unfold ZlP
 exact this
theorem Znm {u:Un} {c:Cf} {m r:Int} (h:Rt u c m r) (t:Int):Pure Tryz.prog 152 [.agg (unC u),.agg (cfC c),iD m,iD r,iD t] (.tup [.agg (cfC (Zb2 u c m r t)),bD (enT u c m r t)]):=
 Fun.fz ((Znl h t).mono fun d H' ⟨q,h1,h2,h3⟩=>by
  rw[h2,h3]
  exact cfz h1 (fun y hy=>hy) _)
theorem ZmB {m loc:Int} {b:List En}:(y'T m loc b).1.length≤b.length:=by
 unfold y'T
 cases z'U m loc b with
 |none=>simp
 |some k=>simp[w'u];omega
theorem OkC.flush {c:Cf} (h:OkC c) (m t loc:Int):OkC (w'3 c m t loc):=by
 unfold w'3
 cases hb:x'H c m t loc with
 |false=>exact h
 |true=>
  refine⟨h.pc,by simpa[y'N,x'v]using h.mem,h.regs,h.row,by simpa[y'N,x'v]using h.bufs,fun b hb=>?_⟩
  simp only[y'N,x'v]at hb
  rcases List.mem_or_eq_of_mem_set hb with h'|rfl
  ·exact h.buf b h'
  ·refine y'z ZmB ?_
   rw[z'e]
   cases he:c.bufs[t.toNat]? with
   |none=>simp
   |some x=>exact h.buf x (z'h he)
theorem ZdJ (c:Cf):x'K c c=true:=by simp[x'K]
end Go.Proofs.YtfneeacgkdhldaaGreat
