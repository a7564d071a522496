/- What is so of each thread of a right configuration. No condition. -/
import Derived.Test.YthlkpnjjkgmlkaaGreatYr
namespace Go.Proofs.YthlkpnjjkgmlkaaGreat
set_option linter.unusedSimpArgs false
set_option linter.unusedVariables false
open Go Go.Proofs Go.Vc
theorem ZtW {md:Int} (hm:2≤md) {own mem:List Int} {all:List (List Int)} {l:List Opc} (h:ZbT l md own all mem=true): ∀k,k≤l.length→ ∃s,RunI md own all mem l k s:=by
 simp only[ZbT,v'V,z'c,z'o]at h
 intro k
 induction k with
 |zero=>intro _;exact⟨[],RunI.zero (by simp_all)⟩
 |succ k ih=>
  intro hk
  obtain⟨s,hs⟩:=ih (by omega)
  obtain⟨x,hx⟩: ∃x,l[k]?=some x:=⟨_,z'b (by omega)⟩
  exact⟨_,(hs.next hm hx (by simp_all[z'l hx]) (by simp_all) (by simp_all) (by simp_all)).2⟩
theorem Zm9 {md:Int} (hm:2≤md) (own mem:List Int) (all:List (List Int)) (l:List Opc):0≤ZfI l md own all mem∧ZfI l md own all mem<md:=by
 unfold ZfI
 cases hv:ZbT l md own all mem with
 |false=>exact⟨Int.le_refl _,show(0:Int)<md by omega⟩
 |true=>
  obtain⟨s,hs⟩:=ZtW hm hv l.length (z'f _)
  have hr:=hs.run
  rw[List.drop_length]at hr
  simp only
  rw[←hr]
  exact v'Z hs.inm (by omega) 0
structure Zs4 (u:Un) (c:Cf) (i:Nat) (x:Ins) (row:List Int) (b:List En) (p:Nat):Prop where
 thr:Thr u c i x row b
 pc:c.pc[i]?=some (p:Int)
 pl:p≤100000
 fit:Fit u (setP c i ((p+1:Nat):Int)) i x row b
 kind: ∃rw n,u.code[i]?=some rw∧u.regs[i]?=some n∧rw[p]?=some x∧(row.length:Int)=n∧(x.op=22∨v'h x n u.init.length rw.length=true∧p+1<rw.length)
theorem OkC.setP {c:Cf} (h:OkC c) (i:Nat) (n:Int):OkC (setP c i n):=⟨by simpa[Go.Proofs.YthlkpnjjkgmlkaaGreat.setP]using h.pc,h.mem,h.regs,h.row,h.bufs,h.buf⟩
theorem ZuC:ndF 2=some ⟨true,false,true,false,false,false⟩:=rfl
theorem ZtA:ndF 3=some ⟨true,true,false,false,false,false⟩:=rfl
theorem ZuD:ndF 4=some ⟨false,true,true,false,false,false⟩:=rfl
theorem ZtB:ndF 5=some ⟨true,true,true,true,false,false⟩:=rfl
theorem ZtC:ndF 6=some ⟨true,true,true,false,false,false⟩:=rfl
theorem ZtD:ndF 7=some ⟨true,true,true,false,false,false⟩:=rfl
theorem ZuE:ndF 9=some ⟨false,true,true,false,true,false⟩:=rfl
theorem Zuf:ndF 20=some ⟨false,false,false,false,false,true⟩:=rfl
theorem Zug:ndF 21=some ⟨false,false,true,false,false,true⟩:=rfl
theorem Zsu {x:Ins} {n l k:Int} (h:v'h x n l k=true) (ho:x.op=2∨x.op=3∨x.op=5∨x.op=6∨x.op=7):0≤x.reg∧x.reg<n:=by
 unfold v'h at h
 rcases ho with ho|ho|ho|ho|ho
 ·rw[ho,ZuC]at h;simp only[y'5,z'c]at h;exact y'1.1 h.1.1.1.1.1
 ·rw[ho,ZtA]at h;simp only[y'5,z'c]at h;exact y'1.1 h.1.1.1.1.1
 ·rw[ho,ZtB]at h;simp only[y'5,z'c]at h;exact y'1.1 h.1.1.1.1.1
 ·rw[ho,ZtC]at h;simp only[y'5,z'c]at h;exact y'1.1 h.1.1.1.1.1
 ·rw[ho,ZtD]at h;simp only[y'5,z'c]at h;exact y'1.1 h.1.1.1.1.1
theorem ZmJ {x:Ins} {n l k:Int} (h:v'h x n l k=true) (ho:x.op=3∨x.op=4∨x.op=5∨x.op=6∨x.op=7∨x.op=9):0≤x.loc∧x.loc<l:=by
 unfold v'h at h
 rcases ho with ho|ho|ho|ho|ho|ho
 ·rw[ho,ZtA]at h;simp only[y'5,z'c]at h;exact y'1.1 h.1.1.1.1.2
 ·rw[ho,ZuD]at h;simp only[y'5,z'c]at h;exact y'1.1 h.1.1.1.1.2
 ·rw[ho,ZtB]at h;simp only[y'5,z'c]at h;exact y'1.1 h.1.1.1.1.2
 ·rw[ho,ZtC]at h;simp only[y'5,z'c]at h;exact y'1.1 h.1.1.1.1.2
 ·rw[ho,ZtD]at h;simp only[y'5,z'c]at h;exact y'1.1 h.1.1.1.1.2
 ·rw[ho,ZuE]at h;simp only[y'5,z'c]at h;exact y'1.1 h.1.1.1.1.2
theorem Zpd {x:Ins} {n l k:Int} (h:v'h x n l k=true) (ho:x.op=20∨x.op=21):0≤x.to∧x.to<k:=by
 unfold v'h at h
 rcases ho with ho|ho
 ·rw[ho,Zuf]at h;simp only[y'5,z'c]at h;exact y'1.1 h.1.1.1.2
 ·rw[ho,Zug]at h;simp only[y'5,z'c]at h;exact y'1.1 h.1.1.1.2
theorem Rt.at {u:Un} {c:Cf} {m r:Int} (h:Rt u c m r) {i:Nat} (hi:i<c.pc.length): ∃x row b p,Zs4 u c i x row b p:=by
 have hl:=h.lens
 have hu:=h.uhead
 have hir:i<u.regs.length:=by omega
 obtain⟨n,hn⟩: ∃n,u.regs[i]?=some n:=⟨_,z'b hir⟩
 obtain⟨rw,hrw⟩: ∃r,u.code[i]?=some r:=⟨_,z'b (by omega)⟩
 obtain⟨p,hp⟩: ∃p,c.pc[i]?=some p:=⟨_,z'b hi⟩
 obtain⟨row,hro⟩: ∃p,c.regs[i]?=some p:=⟨_,z'b (by omega)⟩
 obtain⟨b,hb⟩: ∃p,c.bufs[i]?=some p:=⟨_,z'b (by omega)⟩
 have ht:=h.thr hir
 simp only[Zat,z'c,decide_eq_true_eq,z'd,hn,hrw,hp,hro,hb,z'M]at ht
 obtain⟨⟨⟨⟨h0,h1⟩,h2⟩,h3⟩,h4⟩:=ht
 obtain⟨q,rfl⟩: ∃q:Nat,p=(q:Int):=⟨p.toNat,by omega⟩
 obtain⟨x,hx⟩: ∃x,rw[q]?=some x:=⟨_,z'b (by omega)⟩
 have hrow:=h.row hir
 simp only[Zcr,z'c,decide_eq_true_eq,z'd,hn,hrw,z'M,z'o]at hrow
 obtain⟨⟨⟨⟨⟨w0,w1⟩,w2⟩,w3⟩,w4⟩,w5⟩:=hrow
 have hrl:=h.okU.row rw (z'l hrw)
 have hins:=h.okU.ins rw (z'l hrw) x (z'l hx)
 have hk:x.op=22∨v'h x n u.init.length rw.length=true∧q+1<rw.length:=by
  rcases z'j (q+1) rw.length with hlt|hge
  ·refine .inr ⟨?_,hlt⟩
   have:=w5 q (z'Q.2 (by omega))
   rwa [hx,z'M]at this
  ·left
   have:rw.length-1=q:=by omega
   rw[this,hx,z'M]at w4
   simp only[Zef,z'c,decide_eq_true_eq]at w4
   exact w4.1
 have hval: ∀l,0≤y'P u row l∧y'P u row l<u.md:=fun l=>Zm9 (by omega) _ _ _ _
 refine⟨x,row,b,q,⟨⟨⟨rw,q,hp,hrw,by omega,by rw[z'q];exact hx⟩⟩,hro,hb,hins.1,hins.2⟩,hp,by omega,?_,rw,n,hrw,hn,hx,h2,hk⟩
 exact{
  okc:=h.okC.setP i _
  pc:=by simpa[setP]using hi
  reg:=hro
  buf:=hb
  e:=hins.1
  f:=hins.2
  r:=fun ho=>by
   rcases hk with hk|⟨hk,_⟩
   ·omega
   ·have:=Zsu hk ho;omega
  l:=fun ho=>by
   rcases hk with hk|⟨hk,_⟩
   ·omega
   ·have:=ZmJ hk (by omega)
    show _∧_<(c.mem.length:Int)
    omega
  m:=fun n hn=>by
   have:=z'o.1 (show c.mem.all (fun n=>inB n u.md)=true from hl.2.2.2.2) n hn
   have:=y'1.1 this
   omega
  v:=by have:=hval x.e;omega
  md:=by omega}
structure RB (m r md lc:Int) (b:List En):Prop where
 el: ∀e,e∈b→0≤e.1∧e.1<lc∧0≤e.2∧e.2<md
 p3:m=3→Srt b∧ ∀l,((x'O l b:Nat):Int)≤r
 p2:m=2→(b.length:Int)≤r
 p1:m=1→b=[]
theorem ZsO {b:List En} (h: ∀(i:Nat) (x y:En),b[i]?=some x→b[i+1]?=some y→x.1≤y.1):Srt b:=by
 have key: ∀(i j:Nat) (x y:En),i<j→b[i]?=some x→b[j]?=some y→x.1≤y.1:=by
  intro i j
  induction j with
  |zero=>intro x y hi;omega
  |succ j ih=>
   intro x y hi hx hy
   have hj:j+1<b.length:=(z'g.1 hy).1
   obtain⟨z,hz⟩: ∃z,b[j]?=some z:=⟨_,z'b (by omega)⟩
   have h1:=h j z y hz hy
   rcases z'j i j with h'|h'
   ·have:=ih x z h' hx hz;omega
   ·obtain rfl:i=j:=by omega
    rw[hx]at hz;cases hz;exact h1
 clear h
 induction b with
 |nil=>trivial
 |cons x r ih=>
  refine⟨fun y hy=>?_,ih fun i j a c hi ha hc=>key (i+1) (j+1) a c (by omega) (by simpa using ha) (by simpa using hc)⟩
  obtain⟨j,hj⟩:=y'W hy
  exact key 0 (j+1) x y (by omega) rfl (by simpa using hj)
theorem ZpT {l:Int} {b:List En} (h: ∀e,e∈b→e.1≠l):x'O l b=0:=by
 unfold x'O
 rw[List.countP_eq_zero]
 intro e he
 simpa using h e he
theorem w'r {m r md lc:Int} {b:List En}:x'm m r md lc b=true↔ZaH m r md=true∧RB m r md lc b:=by
 constructor
 ·intro h
  have he: ∀e,e∈b→0≤e.1∧e.1<lc∧0≤e.2∧e.2<md:=fun e he=>Zjh h he
  simp only[x'm,z'c,z'o]at h
  obtain⟨⟨h1,h2⟩,h3⟩:=h
  have hr:0≤r:=by simp only[ZaH,z'c,decide_eq_true_eq]at h1;omega
  refine⟨h1,he,fun hm=>⟨ZsO fun i x y hx hy=>?_,fun l=>?_⟩,fun hm=>?_,fun hm=>?_⟩
  ·have:=h2 (i+1) (z'Q.2 (z'g.1 hy).1)
   simp[w'e,ZaM,hm,hx,hy]at this
   omega
  ·by_cases hl: ∃e,e∈b∧e.1=l
   ·obtain⟨e,he,rfl⟩:=hl
    obtain⟨i,hi⟩:=y'W he
    have:=h2 i (z'Q.2 (z'g.1 hi).1)
    simp[w'e,ZaM,hm,hi]at this
    omega
   ·rw[ZpT fun e he h=>hl ⟨e,he,h⟩]
    simpa using hr
  ·subst hm
   simp[Zdt]at h3
   rcases h3 with h3|h3
   ·omega
   ·rw[h3];simpa using hr
  ·subst hm
   simp[Zdt]at h3
   exact h3
 ·rintro⟨h1,h⟩
  have hg:=h1
  simp only[ZaH,z'c,decide_eq_true_eq]at hg
  simp only[x'm,h1,x'l,z'c,z'o]
  refine⟨fun i hi=>?_,?_⟩
  ·have hi:=z'Q.1 hi
   obtain⟨x,hx⟩: ∃x,b[i]?=some x:=⟨_,z'b hi⟩
   have hE:=h.el x (z'l hx)
   have e1:Ze0 md lc x=false:=by simp[Ze0];omega
   have e2:ZaM m r b i x=false:=by
    unfold ZaM
    by_cases hm:m=3
    ·obtain⟨s1,s2⟩:=h.p3 hm
     have c2:=s2 x.1
     rcases x'D i with h0|h0
     ·subst h0;simp;omega
     ·obtain⟨y,hy⟩: ∃y,b[i-1]?=some y:=⟨_,z'b (by omega)⟩
      have:=Srt.le s1 (i-1) y x hy (by rw[Nat.sub_add_cancel h0];exact hx)
      simp[hy];omega
    ·simp[hm]
   simp[w'e,hx,e1,e2]
  ·have hm:m=1∨m=2∨m=3:=by omega
   rcases hm with hm|hm|hm
   ·rw[h.p1 hm];simp[Zdt]
   ·have:=h.p2 hm;simp[Zdt,hm,this]
   ·simp[Zdt,hm]
theorem ZmB (r:Nat): ∀(n:Nat) (b:List En),(∀e,e∈b→0≤e.1∧e.1<(n:Int))→(∀l,x'O l b≤r)→b.length≤n*r
 |0,b,h,_=>by
  cases b with
  |nil=>simp
  |cons e b=>have:=h e (z'n ..);omega
 |n+1,b,h,hc=>by
  have ih:=ZmB r n (b.filter fun e=> !decide (e.1=(n:Int))) (fun e he=>by
   have h1:=x'R.1 he
   have h2:=h e h1.1
   have h3:e.1≠(n:Int):=by simpa using h1.2
   omega) (fun l=>z'3 (List.filter_sublist.countP_le) (hc l))
  have hs:b.length=x'O n b+(b.filter fun e=> !decide (e.1=(n:Int))).length:=by
   unfold x'O
   rw[←x'N]
   refine(List.length_eq_countP_add_countP (p:=fun x:En=>decide (x.1=(n:Int)))).trans ?_
   congr 1
   exact List.countP_congr fun x _=>by simp
  have:=hc n
  rw[Nat.succ_mul]
  omega
theorem RB.len {m r md lc:Int} {b:List En} (h:RB m r md lc b) (hm:1≤m∧m≤3) (hr:1≤r∧r≤4) (hl:lc≤6):b.length≤60:=by
 have:m=1∨m=2∨m=3:=by omega
 rcases this with hm|hm|hm
 ·rw[h.p1 hm];simp
 ·have:=h.p2 hm;omega
 ·have h3:=(h.p3 hm).2
  have:=ZmB 4 6 b (fun e he=>by have:=h.el e he;omega) (fun l=>by have:=h3 l;omega)
  omega
theorem ZrR {b:List En} (h:Srt b) (e:En) (l:Int):x'O l (w'T e b)=x'O l b+x'O l [e]:=by
 have:=congrArg List.length (ZgP e l b h)
 simp only[que,z'h]at this
 simpa only[x'O,x'N]using this
theorem ZrS (e:En) (l:Int):x'O l [e]=if e.1=l then 1 else 0:=by
 unfold x'O
 by_cases h:e.1=l<;>simp[h]
theorem RB.push {m r md lc:Int} {b:List En} (h:RB m r md lc b) (hm:1≤m∧m≤3) {e:En} (he:0≤e.1∧e.1<lc∧0≤e.2∧e.2<md) (hr:Zcz m r e.1 b=true):RB m r md lc (w'M m e b):=by
 have:m=1∨m=2∨m=3:=by omega
 rcases this with hm|hm|hm<;>subst hm
 ·simp[Zcz]at hr
 ·have hp:w'M 2 e b=b++[e]:=by simp[w'M]
  rw[hp]
  simp[Zcz]at hr
  refine⟨fun y hy=>?_,fun h=>by omega,fun _=>by simp;omega,fun h=>by omega⟩
  rcases z'W.1 hy with hy|hy
  ·exact h.el y hy
  ·rw[z'V.1 hy];exact he
 ·have hp:w'M 3 e b=w'T e b:=by simp[w'M]
  rw[hp]
  simp[Zcz]at hr
  obtain⟨s1,s2⟩:=h.p3 rfl
  refine⟨fun y hy=>?_,fun _=>⟨ZgQ e b s1,fun l=>?_⟩,fun h=>by omega,fun h=>by omega⟩
  ·rcases(ZeE e b y).1 hy with rfl|hy
   ·exact he
   ·exact h.el y hy
  ·rw[ZrR s1,ZrS]
   have:=s2 l
   split
   ·rename_i h;subst h;omega
   ·simpa using this
theorem ZpW (k:Nat) (b:List En):(ZaN k b).Sublist b:=by
 unfold ZaN
 have:=(z'w (b.take k)).append (List.drop_sublist_drop_left b (Nat.le_succ k))
 rwa [x'p]at this
theorem Srt.sub: ∀{a b:List En},a.Sublist b→Srt b→Srt a
 |_,_,.slnil,h=>h
 |_,_,.cons x hs,h=>Srt.sub hs h.2
 |_,_,.cons_cons x hs,h=>⟨fun y hy=>h.1 y (hs.subset hy),Srt.sub hs h.2⟩
theorem RB.sub {m r md lc:Int} {a b:List En} (h:RB m r md lc b) (hs:a.Sublist b):RB m r md lc a where
 el e he:=h.el e (hs.subset he)
 p3 hm:=⟨Srt.sub hs (h.p3 hm).1,fun l=>by have:=(h.p3 hm).2 l;have:=hs.countP_le (p:=fun x=>decide (x.1=l));unfold x'O at*;omega⟩
 p2 hm:=by have:=h.p2 hm;have:=hs.length_le;omega
 p1 hm:=by rw[h.p1 hm]at hs;exact List.sublist_nil.1 hs
theorem ZqT (m l:Int) (b:List En):(x'V m l b).1.Sublist b:=by
 unfold x'V
 cases w'9 m l b with
 |none=>exact z'w _
 |some k=>exact ZpW k b
end Go.Proofs.YthlkpnjjkgmlkaaGreat
