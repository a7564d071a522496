/- Contracts: the reference's number of a name; a case; the known calls of chapter 11. No condition. -/
import Derived.Test.YthlkpnjjkgmlkaaGreatZh
import Derived.Test.YthlkpnjjkgmlkaaGreatYp
import Derived.Test.YthlkpnjjkgmlkaaGreatLc
import Derived.Test.YthlkpnjjkgmlkaaGreatXa
import Derived.Test.YthlkpnjjkgmlkaaGreatLa
import Derived.Test.YthlkpnjjkgmlkaaGreatTa
import Derived.Test.YthlkpnjjkgmlkaaGreatWa
import Derived.Test.YthlkpnjjkgmlkaaGreatYd
namespace Go.Proofs.YthlkpnjjkgmlkaaGreat
set_option linter.unusedSimpArgs false
set_option linter.unusedVariables false
set_option maxRecDepth 20000
open Go Go.Proofs Go.Vc
def d11:Cf:=⟨[1,0],[[],[]],[0,0],[[(0,1)],[]]⟩
def e11:Cf:=⟨[1,0],[[],[]],[1,0],[[],[]]⟩
structure RB (m r md lc:Int) (b:List En):Prop where
 el: ∀e,e∈b→0≤e.1∧e.1<lc∧0≤e.2∧e.2<md
 p3:m=3→Srt b∧ ∀l,((ZaC l b:Nat):Int)≤r
 p2:m=2→(b.length:Int)≤r
 p1:m=1→b=[]
theorem ZrZ {b:List En} (h: ∀(i:Nat) (x y:En),b[i]?=some x→b[i+1]?=some y→x.1≤y.1):Srt b:=by
 have key: ∀(i j:Nat) (x y:En),i<j→b[i]?=some x→b[j]?=some y→x.1≤y.1:=by
  intro i j
  induction j with
  |zero=>intro x y hi;omega
  |succ j ih=>
   intro x y hi hx hy
   have hj:j+1<b.length:=(z'z.1 hy).1
   obtain⟨z,hz⟩: ∃z,b[j]?=some z:=⟨_,z'k (by omega)⟩
   have h1:=h j z y hz hy
   rcases z'g i j with h'|h'
   ·have:=ih x z h' hx hz;omega
   ·obtain rfl:i=j:=by omega
    rw[hx]at hz;cases hz;exact h1
 clear h
 induction b with
 |nil=>trivial
 |cons x r ih=>
  refine⟨fun y hy=>?_,ih fun i j a c hi ha hc=>key (i+1) (j+1) a c (by omega) (by simpa using ha) (by simpa using hc)⟩
  obtain⟨j,hj⟩:=y'u hy
  exact key 0 (j+1) x y (by omega) rfl (by simpa using hj)
theorem Zo5 {l:Int} {b:List En} (h: ∀e,e∈b→e.1≠l):ZaC l b=0:=by
 unfold ZaC
 rw[List.countP_eq_zero]
 intro e he
 simpa using h e he
theorem v'E {m r md lc:Int} {b:List En}:v'r m r md lc b=true↔Zex m r md=true∧RB m r md lc b:=by
 constructor
 ·intro h
  have he: ∀e,e∈b→0≤e.1∧e.1<lc∧0≤e.2∧e.2<md:=fun e he=>ZiR h he
  simp only[v'r,z'd,z'l]at h
  obtain⟨⟨h1,h2⟩,h3⟩:=h
  have hr:0≤r:=by simp only[Zex,z'd,decide_eq_true_eq]at h1;omega
  refine⟨h1,he,fun hm=>⟨ZrZ fun i x y hx hy=>?_,fun l=>?_⟩,fun hm=>?_,fun hm=>?_⟩
  ·have:=h2 (i+1) (z'Q.2 (z'z.1 hy).1)
   simp[ZgR,Zjp,hm,hx,hy]at this
   omega
  ·by_cases hl: ∃e,e∈b∧e.1=l
   ·obtain⟨e,he,rfl⟩:=hl
    obtain⟨i,hi⟩:=y'u he
    have:=h2 i (z'Q.2 (z'z.1 hi).1)
    simp[ZgR,Zjp,hm,hi]at this
    omega
   ·rw[Zo5 fun e he h=>hl ⟨e,he,h⟩]
    simpa using hr
  ·subst hm
   simp[ZfS]at h3
   rcases h3 with h3|h3
   ·omega
   ·rw[h3];simpa using hr
  ·subst hm
   simp[ZfS]at h3
   exact h3
 ·rintro⟨h1,h⟩
  have hg:=h1
  simp only[Zex,z'd,decide_eq_true_eq]at hg
  simp only[v'r,h1,y'g,z'd,z'l]
  refine⟨fun i hi=>?_,?_⟩
  ·have hi:=z'Q.1 hi
   obtain⟨x,hx⟩: ∃x,b[i]?=some x:=⟨_,z'k hi⟩
   have hE:=h.el x (z'E hx)
   have e1:Zmm md lc x=false:=by simp[Zmm];omega
   have e2:Zjp m r b i x=false:=by
    unfold Zjp
    by_cases hm:m=3
    ·obtain⟨s1,s2⟩:=h.p3 hm
     have c2:=s2 x.1
     rcases x'P i with h0|h0
     ·subst h0;simp;omega
     ·obtain⟨y,hy⟩: ∃y,b[i-1]?=some y:=⟨_,z'k (by omega)⟩
      have:=Srt.le s1 (i-1) y x hy (by rw[Nat.sub_add_cancel h0];exact hx)
      simp[hy];omega
    ·simp[hm]
   simp[ZgR,hx,e1,e2]
  ·have hm:m=1∨m=2∨m=3:=by omega
   rcases hm with hm|hm|hm
   ·rw[h.p1 hm];simp[ZfS]
   ·have:=h.p2 hm;simp[ZfS,hm,this]
   ·simp[ZfS,hm]
theorem ZlO (r:Nat): ∀(n:Nat) (b:List En),(∀e,e∈b→0≤e.1∧e.1<(n:Int))→(∀l,ZaC l b≤r)→b.length≤n*r
 |0,b,h,_=>by
  cases b with
  |nil=>simp
  |cons e b=>have:=h e (z't ..);omega
 |n+1,b,h,hc=>by
  have ih:=ZlO r n (b.filter fun e=> !decide (e.1=(n:Int))) (fun e he=>by
   have h1:=x'H.1 he
   have h2:=h e h1.1
   have h3:e.1≠(n:Int):=by simpa using h1.2
   omega) (fun l=>y'b (List.filter_sublist.countP_le) (hc l))
  have hs:b.length=ZaC n b+(b.filter fun e=> !decide (e.1=(n:Int))).length:=by
   unfold ZaC
   rw[←List.countP_eq_length_filter]
   refine(List.length_eq_countP_add_countP (p:=fun x:En=>decide (x.1=(n:Int)))).trans ?_
   congr 1
   exact List.countP_congr fun x _=>by simp
  have:=hc n
  rw[Nat.succ_mul]
  omega
theorem RB.len {m r md lc:Int} {b:List En} (h:RB m r md lc b) (hm:1≤m∧m≤3) (hr:1≤r∧r≤4) (hl:lc≤6):b.length≤60:=by
 have:m=1∨m=2∨m=3:=by omega
 rcases this with hm|hm|hm
 ·rw[h.p1 hm];simp
 ·have:=h.p2 hm;omega
 ·have h3:=(h.p3 hm).2
  have:=ZlO 4 6 b (fun e he=>by have:=h.el e he;omega) (fun l=>by have:=h3 l;omega)
  omega
theorem ZqZ {b:List En} (h:Srt b) (e:En) (l:Int):ZaC l (v'Z e b)=ZaC l b+ZaC l [e]:=by
 have:=congrArg List.length (Zgy e l b h)
 simp only[que,z'e]at this
 simpa only[ZaC,List.countP_eq_length_filter]using this
theorem Zq0 (e:En) (l:Int):ZaC l [e]=if e.1=l then 1 else 0:=by
 unfold ZaC
 by_cases h:e.1=l<;>simp[h]
theorem RB.push {m r md lc:Int} {b:List En} (h:RB m r md lc b) (hm:1≤m∧m≤3) {e:En} (he:0≤e.1∧e.1<lc∧0≤e.2∧e.2<md) (hr:ZfQ m r e.1 b=true):RB m r md lc (Zco m e b):=by
 have:m=1∨m=2∨m=3:=by omega
 rcases this with hm|hm|hm<;>subst hm
 ·simp[ZfQ]at hr
 ·have hp:Zco 2 e b=b++[e]:=by simp[Zco]
  rw[hp]
  simp[ZfQ]at hr
  refine⟨fun y hy=>?_,fun h=>by omega,fun _=>by simp;omega,fun h=>by omega⟩
  rcases z'X.1 hy with hy|hy
  ·exact h.el y hy
  ·rw[z'R.1 hy];exact he
 ·have hp:Zco 3 e b=v'Z e b:=by simp[Zco]
  rw[hp]
  simp[ZfQ]at hr
  obtain⟨s1,s2⟩:=h.p3 rfl
  refine⟨fun y hy=>?_,fun _=>⟨Zgz e b s1,fun l=>?_⟩,fun h=>by omega,fun h=>by omega⟩
  ·rcases(Zez e b y).1 hy with rfl|hy
   ·exact he
   ·exact h.el y hy
  ·rw[ZqZ s1,Zq0]
   have:=s2 l
   split
   ·rename_i h;subst h;omega
   ·simpa using this
theorem Zo6 (k:Nat) (b:List En):(Zd5 k b).Sublist b:=by
 unfold Zd5
 have:=(z'n (b.take k)).append (List.drop_sublist_drop_left b (Nat.le_succ k))
 rwa [List.take_append_drop]at this
theorem Srt.sub: ∀{a b:List En},a.Sublist b→Srt b→Srt a
 |_,_,.slnil,h=>h
 |_,_,.cons x hs,h=>Srt.sub hs h.2
 |_,_,.cons_cons x hs,h=>⟨fun y hy=>h.1 y (hs.subset hy),Srt.sub hs h.2⟩
theorem RB.sub {m r md lc:Int} {a b:List En} (h:RB m r md lc b) (hs:a.Sublist b):RB m r md lc a where
 el e he:=h.el e (hs.subset he)
 p3 hm:=⟨Srt.sub hs (h.p3 hm).1,fun l=>by have:=(h.p3 hm).2 l;have:=hs.countP_le (p:=fun x=>decide (x.1=l));unfold ZaC at*;omega⟩
 p2 hm:=by have:=h.p2 hm;have:=hs.length_le;omega
 p1 hm:=by rw[h.p1 hm]at hs;exact List.sublist_nil.1 hs
theorem Zp5 (m l:Int) (b:List En):(ZcM m l b).1.Sublist b:=by
 unfold ZcM
 cases ZbU m l b with
 |none=>exact z'n _
 |some k=>exact Zo6 k b
theorem w'L {u:Un} {c:Cf} {m r:Int}:w'i u c m r=true↔x'Q u=true∧(c.pc.length=u.regs.length∧c.regs.length=u.regs.length∧c.bufs.length=u.regs.length∧c.mem.length=u.init.length)∧x'A c.mem u.md=true∧(∀t,t<u.regs.length→ZgN u c m r t=true)∧v'r m r u.md u.init.length []=true:=by
 simp only[w'i,Zhf,z'd,decide_eq_true_eq,z'l,z'Q]
 constructor
 ·rintro⟨⟨⟨⟨⟨⟨⟨a,b⟩,c⟩,d⟩,e⟩,f⟩,g⟩,h⟩;exact⟨a,⟨b,c,d,e⟩,f,g,h⟩
 ·rintro⟨a,⟨b,c,d,e⟩,f,g,h⟩;exact⟨⟨⟨⟨⟨⟨⟨a,b⟩,c⟩,d⟩,e⟩,f⟩,g⟩,h⟩
theorem v'g {u:Un} {c:Cf} {m r:Int} {t:Nat}:ZgN u c m r t=true↔(0≤c.pc.getD t 0∧c.pc.getD t 0<((u.code.getD t []).length:Int))∧(((c.regs.getD t []).length:Int)=u.regs.getD t 0∧x'A (c.regs.getD t []) u.md=true)∧v'r m r u.md u.init.length (c.bufs.getD t [])=true:=by
 simp only[ZgN,z'd,decide_eq_true_eq]
 constructor
 ·rintro⟨⟨⟨⟨a,b⟩,c⟩,d⟩,e⟩;exact⟨⟨a,b⟩,⟨c,d⟩,e⟩
 ·rintro⟨⟨a,b⟩,⟨c,d⟩,e⟩;exact⟨⟨⟨⟨a,b⟩,c⟩,d⟩,e⟩
theorem Zgv {α:Type} (l:List α) (i t:Nat) (v d:α) (hi:i<l.length):(l.set i v).getD t d=if t=i then v else l.getD t d:=by
 rw[z'f,z'f,List.getElem?_set]
 by_cases h:t=i
 ·subst h;simp[hi]
 ·rw[if_neg (fun e=>h e.symm),if_neg h]
section
variable {u : Un} {c : Cf} {m r : Int}
theorem Zma (h:w'i u c m r=true) {i:Nat} (hi:i<c.pc.length) {v:Int} (hv:0≤v∧v<((u.code.getD i []).length:Int)):w'i u (setP c i v) m r=true:=by
 obtain⟨a,⟨b,c1,d,e⟩,f,g,k⟩:=w'L.1 h
 refine w'L.2 ⟨a,⟨by simpa[setP]using b,c1,d,e⟩,f,fun t ht=>?_,k⟩
 obtain⟨h1,h2,h3⟩:=v'g.1 (g t ht)
 refine v'g.2 ⟨?_,h2,h3⟩
 show 0≤(c.pc.set i v).getD t 0∧(c.pc.set i v).getD t 0<_
 rw[Zgv _ _ _ _ _ hi]
 split
 ·rename_i e;rw[e];exact hv
 ·exact h1
theorem ZrS (h:w'i u c m r=true) {i:Nat} (hi:i<c.regs.length) {row:List Int} (hl:row.length=(c.regs.getD i []).length) (hv:x'A row u.md=true):w'i u (Zii c i row) m r=true:=by
 obtain⟨a,⟨b,c1,d,e⟩,f,g,k⟩:=w'L.1 h
 refine w'L.2 ⟨a,⟨b,by simpa[Zii]using c1,d,e⟩,f,fun t ht=>?_,k⟩
 obtain⟨h1,h2,h3⟩:=v'g.1 (g t ht)
 refine v'g.2 ⟨h1,?_,h3⟩
 show(((c.regs.set i row).getD t []).length:Int)=_∧x'A ((c.regs.set i row).getD t []) u.md=true
 rw[Zgv _ _ _ _ _ hi]
 split
 ·rename_i e;subst e;exact⟨by rw[hl];exact h2.1,hv⟩
 ·exact h2
theorem ZdS (h:w'i u c m r=true) (i:Nat) {v:Int} (hv:0≤v∧v<u.md):w'i u (ZcV c i v) m r=true:=by
 obtain⟨a,⟨b,c1,d,e⟩,f,g,k⟩:=w'L.1 h
 exact w'L.2 ⟨a,⟨b,c1,d,by simpa[ZcV]using e⟩,Zd3 f i hv,fun t ht=>g t ht,k⟩
theorem Zl9 (h:w'i u c m r=true) {i:Nat} (hi:i<c.bufs.length) {b':List En} (hv:v'r m r u.md u.init.length b'=true):w'i u (Zfo c i b') m r=true:=by
 obtain⟨a,⟨b,c1,d,e⟩,f,g,k⟩:=w'L.1 h
 refine w'L.2 ⟨a,⟨b,c1,by simpa[Zfo]using d,e⟩,f,fun t ht=>?_,k⟩
 obtain⟨h1,h2,h3⟩:=v'g.1 (g t ht)
 refine v'g.2 ⟨h1,h2,?_⟩
 show v'r m r u.md u.init.length ((c.bufs.set i b').getD t [])=true
 rw[Zgv _ _ _ _ _ hi]
 split
 ·exact hv
 ·exact h3
theorem Rt.rb (h:Rt u c m r) {i:Nat} {b:List En} (hb:c.bufs[i]?=some b):RB m r u.md u.init.length b:=by
 have hl:=h.lens
 have hi:=(z'z.1 hb).1
 have:=(v'g.1 (h.thr (t:=i) (by omega))).2.2
 rw[z'f,hb,z'B]at this
 exact(v'E.1 this).2
theorem ZqP (hu:OkU u) (h:w'i u c m r=true):Rt u c m r:=by
 obtain⟨a,⟨b,c1,d,e⟩,f,g,k⟩:=w'L.1 h
 have hun:=a
 simp only[x'Q,Zau,z'd,decide_eq_true_eq,z'l]at a
 obtain⟨⟨⟨⟨⟨⟨⟨a1,a2⟩,a3⟩,a4⟩,a5⟩,a6⟩,a7⟩,a8⟩:=a
 have kg:Zex m r u.md=true:=(v'E.1 k).1
 simp only[Zex,z'd,decide_eq_true_eq]at kg
 refine⟨hu,⟨by omega,by omega,by omega,fun rw hr=>?_,by omega,fun q hq=>?_⟩,h⟩
 ·obtain⟨i,hi⟩:=y'u hr
  have hil:=(z'z.1 hi).1
  have h2:=(v'g.1 (g i (by omega))).2.1.1
  have h3:=a8 i (z'Q.2 (by omega))
  rw[z'f,hi,z'B]at h2
  simp only[ZcO,z'd,decide_eq_true_eq]at h3
  omega
 ·obtain⟨i,hi⟩:=y'u hq
  have hil:=(z'z.1 hi).1
  have h3:=(v'g.1 (g i (by omega))).2.2
  rw[z'f,hi,z'B]at h3
  have:=(v'E.1 h3).2.len (by omega) (by omega) (by omega)
  omega
theorem ZiE {l:Int}: ∀{b:List En} {v:Int},Zdg l b=some v→ ∃e,e∈b∧e.1=l∧e.2=v
 |[],v,h=>by cases h
 |e::b,v,h=>by
  unfold Zdg at h
  cases hl:Zdg l b with
  |some w=>
   rw[hl]at h
   obtain⟨y,h1,h2⟩:=ZiE hl
   exact⟨y,z'o _ h1,h2.1,by simp_all⟩
  |none=>
   rw[hl]at h
   by_cases he:e.1=l
   ·exact⟨e,z't ..,he,by simp_all⟩
   ·simp_all
theorem ZsA (h:Rt u c m r) (k:Nat):0≤c.mem.getD k 0∧c.mem.getD k 0<u.md:=v'S h.lens.2.2.2.2 (by have:=h.uhead;omega) k
theorem Zp9 (h:Rt u c m r) (t l:Int):0≤Zdj c t l∧Zdj c t l<u.md:=by
 have hu:=h.uhead
 unfold Zdj
 split
 ·rename_i b n h1 h2 h3 h4
  cases hl:Zdg l b with
  |none=>exact Zjn h.lens.2.2.2.2 h4
  |some v=>
   obtain⟨e,he,_,rfl⟩:=ZiE hl
   exact((h.rb h2).el e he).2.2
 ·omega
theorem Rt.act (h:Rt u c m r) (t:Int):Rt u (Zgg u c m r t) m r:=by
 cases hE:enT u c m r t with
 |false=>rw[ZqS hE];exact h
 |true=>
 by_cases ht:t<0∨t≥c.pc.length
 ·rw[Zsp ht]at hE;cases hE
 obtain⟨i,rfl⟩: ∃i:Nat,t=(i:Int):=⟨t.toNat,by omega⟩
 obtain⟨x,row,b,p,ha⟩:=h.at (i:=i) (by omega)
 rw[ZqR ha,hE]
 rw[Zso ha.thr]at hE
 refine ZqP h.okU ?_
 have hu:=h.uhead
 have hl:=h.lens
 obtain⟨rw,n,k1,k2,k3,k4,k5⟩:=ha.kind
 have hnd:x.op≠22:=fun e=>by simp[enB,e]at hE
 obtain⟨k5,k6⟩:=k5.resolve_left hnd
 have hil:i<c.pc.length:=by omega
 have hcd:u.code.getD i []=rw:=by rw[z'f,k1];rfl
 have hrd:c.regs.getD i []=row:=by rw[z'f,ha.thr.reg];rfl
 have hrl:=(z'z.1 ha.thr.reg).1
 have hbl:=(z'z.1 ha.thr.buf).1
 have hvx: ∀l,0≤v'8 u row l∧v'8 u row l<u.md:=fun l=>Zmk (by omega) _ _ _ _
 have hra:x'A row u.md=true:=by
  have:=(v'g.1 (h.thr (t:=i) (by omega))).2.1.2
  rwa [hrd]at this
 have hP: ∀v:Int,(0≤v∧v<(rw.length:Int))→w'i u (setP c i v) m r=true:=fun v hv=>Zma h.rt hil (by rw[hcd];exact hv)
 have h1:=hP ((p+1:Nat):Int) (by omega)
 show w'i u (ZdE u (setP c i ((p+1:Nat):Int)) m i x row b) m r=true
 generalize hc1:setP c i ((p+1:Nat):Int)=c1 at h1⊢
 have e1:c1.pc.length=c.pc.length:=by subst hc1;simp[setP]
 have e2:c1.regs=c.regs:=by subst hc1;rfl
 have e3:c1.mem=c.mem:=by subst hc1;rfl
 have e4:c1.bufs=c.bufs:=by subst hc1;rfl
 have hR: ∀v:Int,(0≤v∧v<u.md)→w'i u (Zdm c1 i row x v) m r=true:=fun v hv=>ZrS h1 (by rw[e2];exact hrl) (by rw[e2,hrd];simp) (Zd3 hra _ hv)
 have hM:0≤ZeD c1 x∧ZeD c1 x<u.md:=by unfold ZeD;rw[e3];exact ZsA h _
 have hP1:(0≤x.to∧x.to<(rw.length:Int))→w'i u (setP c1 i x.to) m r=true:=fun hv=>Zma h1 (by omega) (by rw[hcd];exact hv)
 unfold ZdE
 split
 ·rename_i ho;exact hP1 (Zoj k5 (.inl ho))
 split
 ·rename_i _ ho
  split
  ·exact hP1 (Zoj k5 (.inr ho))
  ·exact h1
 split
 ·exact hR _ (hvx _)
 split
 ·refine hR _ ?_
  have:Zdj c1 (i:Nat) x.loc=Zdj c (i:Nat) x.loc:=by unfold Zdj;rw[e4,e3]
  rw[this]
  exact Zp9 h _ _
 split
 ·rename_i ho
  split
  ·exact ZdS h1 _ (hvx _)
  ·rename_i hm
   refine Zl9 h1 (by rw[e4];exact hbl) ?_
   have hb:=h.rb ha.thr.buf
   have hro:ZfQ m r x.loc b=true:=by
    simp[enB,ho]at hE
    exact hE.resolve_left hm
   have hlc:=ZlW k5 (.inr (.inl ho))
   exact v'E.2 ⟨(v'E.1 h.tail).1,hb.push h.gate.1 (e:=(x.loc,v'8 u row x.e)) ⟨hlc.1,hlc.2,(hvx _).1,(hvx _).2⟩ hro⟩
 split
 ·split
  ·exact ZdS (hR _ hM) _ (hvx _)
  ·exact hR _ hM
 split
 ·refine ZdS (hR _ hM) _ ?_
  exact ZfT (by have:=(hvx x.e).1;omega) (by omega)
 split
 ·exact ZdS (hR _ hM) _ (hvx _)
 ·exact h1
theorem OkC.act (h:Rt u c m r) (t:Int):OkC (Zgg u c m r t):=(h.act t).okC
theorem Rt.flush (h:Rt u c m r) (t l:Int):Rt u (ZeQ c m t l) m r:=by
 unfold ZeQ
 cases hb:ZgW c m t l with
 |false=>exact h
 |true=>
  refine ZqP h.okU ?_
  unfold ZgW at hb
  split at hb
  ·rename_i b h0 hbt
   have hrb:=h.rb hbt
   rw[z'f,hbt,z'B]
   refine ZdS (Zl9 h.rt (z'z.1 hbt).1 (v'E.2 ⟨(v'E.1 h.tail).1,hrb.sub (Zp5 ..)⟩)) _ ?_
   exact(hrb.el _ (ZrK hb)).2.2
  ·cases hb
end
def Off (i:Nat) (c d:Cf):Prop:= ∀k,k≠i→d.pc[k]?=c.pc[k]?∧d.regs[k]?=c.regs[k]?∧d.bufs[k]?=c.bufs[k]?
section
variable {i : Nat} {c d : Cf}
theorem Off.refl:Off i c c:=fun k _=>⟨rfl,rfl,rfl⟩
theorem Off.P (h:Off i c d) (v:Int):Off i c (setP d i v):=fun k hk=>⟨(x'9 (Ne.symm hk)).trans (h k hk).1,(h k hk).2⟩
theorem Off.R (h:Off i c d) (v:List Int):Off i c (Zii d i v):=fun k hk=>⟨(h k hk).1,(x'9 (Ne.symm hk)).trans (h k hk).2.1,(h k hk).2.2⟩
theorem Off.M (h:Off i c d) (j:Nat) (v:Int):Off i c (ZcV d j v):=h
theorem Off.B (h:Off i c d) (v:List En):Off i c (Zfo d i v):=fun k hk=>⟨(h k hk).1,(h k hk).2.1,(x'9 (Ne.symm hk)).trans (h k hk).2.2⟩
theorem Off.X (h:Off i c d) (u:Un) (m:Int) (x:Ins) (row:List Int) (b:List En):Off i c (ZdE u d m i x row b):=by
 unfold ZdE Zdm
 split
 ·exact h.P _
 split
 ·split
  ·exact h.P _
  ·exact h
 split
 ·exact h.R _
 split
 ·exact h.R _
 split
 ·split
  ·exact h.M _ _
  ·exact h.B _
 split
 ·split
  ·exact(h.R _).M _ _
  ·exact h.R _
 split
 ·exact(h.R _).M _ _
 split
 ·exact(h.R _).M _ _
 ·exact h
end
section
variable {u : Un} {c : Cf} {m r : Int}
theorem Rt.sc (h:Rt u c 1 r) {b:List En} (hb:b∈c.bufs):b=[]:=by
 obtain⟨i,hi⟩:=y'u hb
 exact(h.rb hi).p1 rfl
end
theorem Rt.actM {u:Un} {c:Cf} {m r:Int} (h:Rt u c m r) (a:Int):Rt u (actM u c m r a) m r:=by
 unfold Go.Proofs.YthlkpnjjkgmlkaaGreat.actM
 split
 ·rename_i ag _
  cases ag with
  |th t=>exact h.act (t:Nat)
  |fl t l=>exact h.flush (t:Nat) l
 ·exact h
instance:DecidableEq Cf:=fun a b=>decidable_of_iff (a.pc=b.pc∧a.regs=b.regs∧a.mem=b.mem∧a.bufs=b.bufs) ⟨fun h=>by cases a;cases b;simp_all,fun h=>by subst h;simp⟩
instance:Inhabited Cf:=⟨⟨[],[],[],[]⟩⟩
attribute [local irreducible] x'r VCg VCw VCx
section
variable {u : Un} {c : Cf} {m r : Int}
end
section
variable {u : Un} {c : Cf} {m r : Int} (b : Nat)
end
end Go.Proofs.YthlkpnjjkgmlkaaGreat
/- Calls through method values. No condition. -/
namespace Go.Vc
set_option linter.unusedSimpArgs false
set_option linter.unusedVariables false
open Go
end Go.Vc
/- Contracts: what is seen on a circle. No condition. -/
namespace Go.Proofs.YthlkpnjjkgmlkaaGreat
set_option linter.unusedSimpArgs false
set_option linter.unusedVariables false
set_option maxRecDepth 20000
open Go Go.Proofs Go.Vc
attribute [local irreducible] x'r VCg VCw VCx
section
variable {u : Un} {c : Cf} {m r : Int}
end
theorem VCx.step {P:Program} (T:Tab P) {W:Nat→Bool} {st:Nat} {H H1:Heap} {K:(Nat→D)→Prop} {m i:Nat} {E:Nat→D} {o:Oper} {l:List Oper} {d:D} {t:Tmp} (hg:o.guard=none) (ht:o.dst=some t) (hi:Nat.beq i st=false)
  (h1:opC T o (evD E) H (fun d' H'=>d'=d∧H'=H)) (h1':opC T o (evD E) H1 (fun d' H'=>d'=d∧H'=H1)) (h2:VCx T W st H H1 K m (i+1) l (upd E t d)):VCx T W st H H1 K (m+1) i (o::l) E:=by
 unfold VCx
 exact⟨d,⟨hg,fun _=>⟨Zap T h1,.inr (Zap T h1')⟩,fun e=>by subst e;rw[w'6]at hi;cases hi⟩,by rw[ht];exact h2⟩
theorem VCx.nil {P:Program} (T:Tab P) {W:Nat→Bool} {st:Nat} {H H1:Heap} {K:(Nat→D)→Prop} {i:Nat} {E:Nat→D} {l:List Oper} (h:K E):VCx T W st H H1 K 0 i l E:=by unfold VCx;exact h
abbrev OwnI (L:List Int):D→Heap→Prop:=fun d H'=> ∃x:Option (Nat×Nat),gOk x L.length∧d= .gs x L.length∧H'=shp x 3 1 (L.map iD) []
theorem OwnI.freeze {f:Nat} {args:List D} {L:List Int} (h:Fun Tryz.prog f args [] false (OwnI L)):Pure Tryz.prog f args (w'H L):=
 Fun.freeze (Zh7 _) (h.mono fun d H' ⟨x,hx,h1,h2⟩=>⟨x,3,by rw[h1,y'T],by rw[h2,Zke]⟩)
end Go.Proofs.YthlkpnjjkgmlkaaGreat
