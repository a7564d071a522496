/- Buffers that can be, in plain Lean. No condition. -/
import Derived.Test.YtomcmfbpmkklmaaGreatZm
namespace Go.Proofs.YtomcmfbpmkklmaaGreat
set_option linter.unusedSimpArgs false
set_option linter.unusedVariables false
open Go Go.Proofs Go.Vc
structure RB (m r md lc:Int) (b:List En):Prop where
 el: ∀e,e∈b→0≤e.1∧e.1<lc∧0≤e.2∧e.2<md
 p3:m=3→Srt b∧ ∀l,((x'f l b:Nat):Int)≤r
 p2:m=2→(b.length:Int)≤r
 p1:m=1→b=[]
theorem Zn3 {b:List En} (h: ∀(i:Nat) (x y:En),b[i]?=some x→b[i+1]?=some y→x.1≤y.1):Srt b:=by
 have key: ∀(i j:Nat) (x y:En),i<j→b[i]?=some x→b[j]?=some y→x.1≤y.1:=by
  intro i j
  induction j with
  |zero=>intro x y hi;omega
  |succ j ih=>
   intro x y hi hx hy
   have hj:j+1<b.length:=(z'c.1 hy).1
   obtain⟨z,hz⟩: ∃z,b[j]?=some z:=⟨_,z'b (by omega)⟩
   have h1:=h j z y hz hy
   rcases z'g i j with h'|h'
   ·have:=ih x z h' hx hz;omega
   ·obtain rfl:i=j:=by omega
    rw[hx]at hz;cases hz;exact h1
 clear h
 induction b with
 |nil=>trivial
 |cons x r ih=>
  refine⟨fun y hy=>?_,ih fun i j a c hi ha hc=>key (i+1) (j+1) a c (by omega) (by simpa using ha) (by simpa using hc)⟩
  obtain⟨j,hj⟩:=x'y hy
  exact key 0 (j+1) x y (by omega) rfl (by simpa using hj)
theorem Zmw {l:Int} {b:List En} (h: ∀e,e∈b→e.1≠l):x'f l b=0:=by
 unfold x'f
 rw[List.countP_eq_zero]
 intro e he
 simpa using h e he
theorem v'n {m r md lc:Int} {b:List En}:y'Q m r md lc b=true↔Zai m r md=true∧RB m r md lc b:=by
 constructor
 ·intro h
  have he: ∀e,e∈b→0≤e.1∧e.1<lc∧0≤e.2∧e.2<md:=fun e he=>Zhu h he
  simp only[y'Q,z'h,z'B]at h
  obtain⟨⟨h1,h2⟩,h3⟩:=h
  have hr:0≤r:=by simp only[Zai,z'h,decide_eq_true_eq]at h1;omega
  refine⟨h1,he,fun hm=>⟨Zn3 fun i x y hx hy=>?_,fun l=>?_⟩,fun hm=>?_,fun hm=>?_⟩
  ·have:=h2 (i+1) (z'K.2 (z'c.1 hy).1)
   simp[x'1,v'A,hm,hx,hy]at this
   omega
  ·by_cases hl: ∃e,e∈b∧e.1=l
   ·obtain⟨e,he,rfl⟩:=hl
    obtain⟨i,hi⟩:=x'y he
    have:=h2 i (z'K.2 (z'c.1 hi).1)
    simp[x'1,v'A,hm,hi]at this
    omega
   ·rw[Zmw fun e he h=>hl ⟨e,he,h⟩]
    simpa using hr
  ·subst hm
   simp[Za6]at h3
   rcases h3 with h3|h3
   ·omega
   ·rw[h3];simpa using hr
  ·subst hm
   simp[Za6]at h3
   exact h3
 ·rintro⟨h1,h⟩
  have hg:=h1
  simp only[Zai,z'h,decide_eq_true_eq]at hg
  simp only[y'Q,h1,y'Z,z'h,z'B]
  refine⟨fun i hi=>?_,?_⟩
  ·have hi:=z'K.1 hi
   obtain⟨x,hx⟩: ∃x,b[i]?=some x:=⟨_,z'b hi⟩
   have hE:=h.el x (z'f hx)
   have e1:Zcx md lc x=false:=by simp[Zcx];omega
   have e2:v'A m r b i x=false:=by
    unfold v'A
    by_cases hm:m=3
    ·obtain⟨s1,s2⟩:=h.p3 hm
     have c2:=s2 x.1
     rcases x'S i with h0|h0
     ·subst h0;simp;omega
     ·obtain⟨y,hy⟩: ∃y,b[i-1]?=some y:=⟨_,z'b (by omega)⟩
      have:=Srt.le s1 (i-1) y x hy (by rw[Nat.sub_add_cancel h0];exact hx)
      simp[hy];omega
    ·simp[hm]
   simp[x'1,hx,e1,e2]
  ·have hm:m=1∨m=2∨m=3:=by omega
   rcases hm with hm|hm|hm
   ·rw[h.p1 hm];simp[Za6]
   ·have:=h.p2 hm;simp[Za6,hm,this]
   ·simp[Za6,hm]
theorem Zjz (r:Nat): ∀(n:Nat) (b:List En),(∀e,e∈b→0≤e.1∧e.1<(n:Int))→(∀l,x'f l b≤r)→b.length≤n*r
 |0,b,h,_=>by
  cases b with
  |nil=>simp
  |cons e b=>have:=h e (z'C ..);omega
 |n+1,b,h,hc=>by
  have ih:=Zjz r n (b.filter fun e=> !decide (e.1=(n:Int))) (fun e he=>by
   have h1:=x'B.1 he
   have h2:=h e h1.1
   have h3:e.1≠(n:Int):=by simpa using h1.2
   omega) (fun l=>y'H (List.filter_sublist.countP_le) (hc l))
  have hs:b.length=x'f n b+(b.filter fun e=> !decide (e.1=(n:Int))).length:=by
   unfold x'f
   rw[←w'q]
   refine(List.length_eq_countP_add_countP (p:=fun x:En=>decide (x.1=(n:Int)))).trans ?_
   congr 1
   exact List.countP_congr fun x _=>by simp
  have:=hc n
  rw[Nat.succ_mul]
  omega
theorem RB.len {m r md lc:Int} {b:List En} (h:RB m r md lc b) (hm:1≤m∧m≤3) (hr:1≤r∧r≤4) (hl:lc≤6):b.length≤60:=by
 have:m=1∨m=2∨m=3:=by omega
 rcases this with hm|hm|hm
 ·rw[h.p1 hm];simp
 ·have:=h.p2 hm;omega
 ·have h3:=(h.p3 hm).2
  have:=Zjz 4 6 b (fun e he=>by have:=h.el e he;omega) (fun l=>by have:=h3 l;omega)
  omega
theorem Zot {b:List En} (h:Srt b) (e:En) (l:Int):x'f l (w'k e b)=x'f l b+x'f l [e]:=by
 have:=congrArg List.length (ZfT e l b h)
 simp only[que,z'k]at this
 simpa only[x'f,w'q]using this
theorem ZnL (e:En) (l:Int):x'f l [e]=if e.1=l then 1 else 0:=by
 unfold x'f
 by_cases h:e.1=l<;>simp[h]
theorem RB.push {m r md lc:Int} {b:List En} (h:RB m r md lc b) (hm:1≤m∧m≤3) {e:En} (he:0≤e.1∧e.1<lc∧0≤e.2∧e.2<md) (hr:ZaR m r e.1 b=true):RB m r md lc (x'2 m e b):=by
 have:m=1∨m=2∨m=3:=by omega
 rcases this with hm|hm|hm<;>subst hm
 ·simp[ZaR]at hr
 ·have hp:x'2 2 e b=b++[e]:=by simp[x'2]
  rw[hp]
  simp[ZaR]at hr
  refine⟨fun y hy=>?_,fun h=>by omega,fun _=>by simp;omega,fun h=>by omega⟩
  rcases y'x.1 hy with hy|hy
  ·exact h.el y hy
  ·rw[x'g.1 hy];exact he
 ·have hp:x'2 3 e b=w'k e b:=by simp[x'2]
  rw[hp]
  simp[ZaR]at hr
  obtain⟨s1,s2⟩:=h.p3 rfl
  refine⟨fun y hy=>?_,fun _=>⟨Zf1 e b s1,fun l=>?_⟩,fun h=>by omega,fun h=>by omega⟩
  ·rcases(ZdU e b y).1 hy with rfl|hy
   ·exact he
   ·exact h.el y hy
  ·rw[Zot s1,ZnL]
   have:=s2 l
   split
   ·rename_i h;subst h;omega
   ·simpa using this
theorem Zm2 (k:Nat) (b:List En):(w'I k b).Sublist b:=by
 unfold w'I
 have:=(z'm (b.take k)).append (List.drop_sublist_drop_left b (Nat.le_succ k))
 rwa [w'K]at this
theorem Srt.sub: ∀{a b:List En},a.Sublist b→Srt b→Srt a
 |_,_,.slnil,h=>h
 |_,_,.cons x hs,h=>Srt.sub hs h.2
 |_,_,.cons_cons x hs,h=>⟨fun y hy=>h.1 y (hs.subset hy),Srt.sub hs h.2⟩
theorem RB.sub {m r md lc:Int} {a b:List En} (h:RB m r md lc b) (hs:a.Sublist b):RB m r md lc a where
 el e he:=h.el e (hs.subset he)
 p3 hm:=⟨Srt.sub hs (h.p3 hm).1,fun l=>by have:=(h.p3 hm).2 l;have:=hs.countP_le (p:=fun x=>decide (x.1=l));unfold x'f at*;omega⟩
 p2 hm:=by have:=h.p2 hm;have:=hs.length_le;omega
 p1 hm:=by rw[h.p1 hm]at hs;exact List.sublist_nil.1 hs
theorem Zm5 (m l:Int) (b:List En):(y'L m l b).1.Sublist b:=by
 unfold y'L
 cases z'Y m l b with
 |none=>exact z'm _
 |some k=>exact Zm2 k b
theorem w'n {u:Un} {c:Cf} {m r:Int}:y'8 u c m r=true↔z'8 u=true∧(c.pc.length=u.regs.length∧c.regs.length=u.regs.length∧c.bufs.length=u.regs.length∧c.mem.length=u.init.length)∧y'z c.mem u.md=true∧(∀t,t<u.regs.length→v'K u c m r t=true)∧y'Q m r u.md u.init.length []=true:=by
 simp only[y'8,w'Y,z'h,decide_eq_true_eq,z'B,z'K]
 constructor
 ·rintro⟨⟨⟨⟨⟨⟨⟨a,b⟩,c⟩,d⟩,e⟩,f⟩,g⟩,h⟩;exact⟨a,⟨b,c,d,e⟩,f,g,h⟩
 ·rintro⟨a,⟨b,c,d,e⟩,f,g,h⟩;exact⟨⟨⟨⟨⟨⟨⟨a,b⟩,c⟩,d⟩,e⟩,f⟩,g⟩,h⟩
theorem v'D {u:Un} {c:Cf} {m r:Int} {t:Nat}:v'K u c m r t=true↔(0≤c.pc.getD t 0∧c.pc.getD t 0<((u.code.getD t []).length:Int))∧(((c.regs.getD t []).length:Int)=u.regs.getD t 0∧y'z (c.regs.getD t []) u.md=true)∧y'Q m r u.md u.init.length (c.bufs.getD t [])=true:=by
 simp only[v'K,z'h,decide_eq_true_eq]
 constructor
 ·rintro⟨⟨⟨⟨a,b⟩,c⟩,d⟩,e⟩;exact⟨⟨a,b⟩,⟨c,d⟩,e⟩
 ·rintro⟨⟨a,b⟩,⟨c,d⟩,e⟩;exact⟨⟨⟨⟨a,b⟩,c⟩,d⟩,e⟩
theorem ZfG {α:Type} (l:List α) (i t:Nat) (v d:α) (hi:i<l.length):(l.set i v).getD t d=if t=i then v else l.getD t d:=by
 rw[z'd,z'd,v'7]
 by_cases h:t=i
 ·subst h;simp[hi]
 ·rw[if_neg (fun e=>h e.symm),if_neg h]
section
variable {u : Un} {c : Cf} {m r : Int}
theorem Zjo (h:y'8 u c m r=true) {i:Nat} (hi:i<c.pc.length) {v:Int} (hv:0≤v∧v<((u.code.getD i []).length:Int)):y'8 u (setP c i v) m r=true:=by
 obtain⟨a,⟨b,c1,d,e⟩,f,g,k⟩:=w'n.1 h
 refine w'n.2 ⟨a,⟨by simpa[setP]using b,c1,d,e⟩,f,fun t ht=>?_,k⟩
 obtain⟨h1,h2,h3⟩:=v'D.1 (g t ht)
 refine v'D.2 ⟨?_,h2,h3⟩
 show 0≤(c.pc.set i v).getD t 0∧(c.pc.set i v).getD t 0<_
 rw[ZfG _ _ _ _ _ hi]
 split
 ·rename_i e;rw[e];exact hv
 ·exact h1
theorem ZnN (h:y'8 u c m r=true) {i:Nat} (hi:i<c.regs.length) {row:List Int} (hl:row.length=(c.regs.getD i []).length) (hv:y'z row u.md=true):y'8 u (x'p c i row) m r=true:=by
 obtain⟨a,⟨b,c1,d,e⟩,f,g,k⟩:=w'n.1 h
 refine w'n.2 ⟨a,⟨b,by simpa[x'p]using c1,d,e⟩,f,fun t ht=>?_,k⟩
 obtain⟨h1,h2,h3⟩:=v'D.1 (g t ht)
 refine v'D.2 ⟨h1,?_,h3⟩
 show(((c.regs.set i row).getD t []).length:Int)=_∧y'z ((c.regs.set i row).getD t []) u.md=true
 rw[ZfG _ _ _ _ _ hi]
 split
 ·rename_i e;subst e;exact⟨by rw[hl];exact h2.1,hv⟩
 ·exact h2
theorem Zdu (h:y'8 u c m r=true) (i:Nat) {v:Int} (hv:0≤v∧v<u.md):y'8 u (y'I c i v) m r=true:=by
 obtain⟨a,⟨b,c1,d,e⟩,f,g,k⟩:=w'n.1 h
 exact w'n.2 ⟨a,⟨b,c1,d,by simpa[y'I]using e⟩,ZdX f i hv,fun t ht=>g t ht,k⟩
theorem ZjT (h:y'8 u c m r=true) {i:Nat} (hi:i<c.bufs.length) {b':List En} (hv:y'Q m r u.md u.init.length b'=true):y'8 u (y'1 c i b') m r=true:=by
 obtain⟨a,⟨b,c1,d,e⟩,f,g,k⟩:=w'n.1 h
 refine w'n.2 ⟨a,⟨b,c1,by simpa[y'1]using d,e⟩,f,fun t ht=>?_,k⟩
 obtain⟨h1,h2,h3⟩:=v'D.1 (g t ht)
 refine v'D.2 ⟨h1,h2,?_⟩
 show y'Q m r u.md u.init.length ((c.bufs.set i b').getD t [])=true
 rw[ZfG _ _ _ _ _ hi]
 split
 ·exact hv
 ·exact h3
theorem Rt.rb (h:Rt u c m r) {i:Nat} {b:List En} (hb:c.bufs[i]?=some b):RB m r u.md u.init.length b:=by
 have hl:=h.lens
 have hi:=(z'c.1 hb).1
 have:=(v'D.1 (h.thr (t:=i) (by omega))).2.2
 rw[z'd,hb,z'I]at this
 exact(v'n.1 this).2
theorem ZkE (hu:OkU u) (h:y'8 u c m r=true):Rt u c m r:=by
 obtain⟨a,⟨b,c1,d,e⟩,f,g,k⟩:=w'n.1 h
 have hun:=a
 simp only[z'8,w'e,z'h,decide_eq_true_eq,z'B]at a
 obtain⟨⟨⟨⟨⟨⟨⟨a1,a2⟩,a3⟩,a4⟩,a5⟩,a6⟩,a7⟩,a8⟩:=a
 have kg:Zai m r u.md=true:=(v'n.1 k).1
 simp only[Zai,z'h,decide_eq_true_eq]at kg
 refine⟨hu,⟨by omega,by omega,by omega,fun rw hr=>?_,by omega,fun q hq=>?_⟩,h⟩
 ·obtain⟨i,hi⟩:=x'y hr
  have hil:=(z'c.1 hi).1
  have h2:=(v'D.1 (g i (by omega))).2.1.1
  have h3:=a8 i (z'K.2 (by omega))
  rw[z'd,hi,z'I]at h2
  simp only[v'P,z'h,decide_eq_true_eq]at h3
  omega
 ·obtain⟨i,hi⟩:=x'y hq
  have hil:=(z'c.1 hi).1
  have h3:=(v'D.1 (g i (by omega))).2.2
  rw[z'd,hi,z'I]at h3
  have:=(v'n.1 h3).2.len (by omega) (by omega) (by omega)
  omega
theorem Zhc {l:Int}: ∀{b:List En} {v:Int},v't l b=some v→ ∃e,e∈b∧e.1=l∧e.2=v
 |[],v,h=>by cases h
 |e::b,v,h=>by
  unfold v't at h
  cases hl:v't l b with
  |some w=>
   rw[hl]at h
   obtain⟨y,h1,h2⟩:=Zhc hl
   exact⟨y,z'e _ h1,h2.1,by simp_all⟩
  |none=>
   rw[hl]at h
   by_cases he:e.1=l
   ·exact⟨e,z'C ..,he,by simp_all⟩
   ·simp_all
theorem ZpX (h:Rt u c m r) (k:Nat):0≤c.mem.getD k 0∧c.mem.getD k 0<u.md:=ZaU h.lens.2.2.2.2 (by have:=h.uhead;omega) k
theorem ZmS (h:Rt u c m r) (t l:Int):0≤x'x c t l∧x'x c t l<u.md:=by
 have hu:=h.uhead
 unfold x'x
 split
 ·rename_i b n h1 h2 h3 h4
  cases hl:v't l b with
  |none=>exact Zb0 h.lens.2.2.2.2 h4
  |some v=>
   obtain⟨e,he,_,rfl⟩:=Zhc hl
   exact((h.rb h2).el e he).2.2
 ·omega
theorem Rt.act (h:Rt u c m r) (t:Int):Rt u (v'C u c m r t) m r:=by
 cases hE:enT u c m r t with
 |false=>rw[Ze4 hE];exact h
 |true=>
 by_cases ht:t<0∨t≥c.pc.length
 ·rw[Zdv ht]at hE;cases hE
 obtain⟨i,rfl⟩: ∃i:Nat,t=(i:Int):=⟨t.toNat,by omega⟩
 obtain⟨x,row,b,p,ha⟩:=h.at (i:=i) (by omega)
 rw[ZcM ha,hE]
 rw[ZbT ha.thr]at hE
 refine ZkE h.okU ?_
 have hu:=h.uhead
 have hl:=h.lens
 obtain⟨rw,n,k1,k2,k3,k4,k5⟩:=ha.kind
 have hnd:x.op≠22:=fun e=>by simp[enB,e]at hE
 obtain⟨k5,k6⟩:=k5.resolve_left hnd
 have hil:i<c.pc.length:=by omega
 have hcd:u.code.getD i []=rw:=by rw[z'd,k1];rfl
 have hrd:c.regs.getD i []=row:=by rw[z'd,ha.thr.reg];rfl
 have hrl:=(z'c.1 ha.thr.reg).1
 have hbl:=(z'c.1 ha.thr.buf).1
 have hvx: ∀l,0≤z'1 u row l∧z'1 u row l<u.md:=fun l=>ZjM (by omega) _ _ _ _
 have hra:y'z row u.md=true:=by
  have:=(v'D.1 (h.thr (t:=i) (by omega))).2.1.2
  rwa [hrd]at this
 have hP: ∀v:Int,(0≤v∧v<(rw.length:Int))→y'8 u (setP c i v) m r=true:=fun v hv=>Zjo h.rt hil (by rw[hcd];exact hv)
 have h1:=hP ((p+1:Nat):Int) (by omega)
 show y'8 u (y'B u (setP c i ((p+1:Nat):Int)) m i x row b) m r=true
 generalize hc1:setP c i ((p+1:Nat):Int)=c1 at h1⊢
 have e1:c1.pc.length=c.pc.length:=by subst hc1;simp[setP]
 have e2:c1.regs=c.regs:=by subst hc1;rfl
 have e3:c1.mem=c.mem:=by subst hc1;rfl
 have e4:c1.bufs=c.bufs:=by subst hc1;rfl
 have hR: ∀v:Int,(0≤v∧v<u.md)→y'8 u (y'W c1 i row x v) m r=true:=fun v hv=>ZnN h1 (by rw[e2];exact hrl) (by rw[e2,hrd];simp) (ZdX hra _ hv)
 have hM:0≤y'm c1 x∧y'm c1 x<u.md:=by unfold y'm;rw[e3];exact ZpX h _
 have hP1:(0≤x.to∧x.to<(rw.length:Int))→y'8 u (setP c1 i x.to) m r=true:=fun hv=>Zjo h1 (by omega) (by rw[hcd];exact hv)
 unfold y'B
 split
 ·rename_i ho;exact hP1 (ZkK k5 (.inl ho))
 split
 ·rename_i _ ho
  split
  ·exact hP1 (ZkK k5 (.inr ho))
  ·exact h1
 split
 ·exact hR _ (hvx _)
 split
 ·refine hR _ ?_
  have:x'x c1 (i:Nat) x.loc=x'x c (i:Nat) x.loc:=by unfold x'x;rw[e4,e3]
  rw[this]
  exact ZmS h _ _
 split
 ·rename_i ho
  split
  ·exact Zdu h1 _ (hvx _)
  ·rename_i hm
   refine ZjT h1 (by rw[e4];exact hbl) ?_
   have hb:=h.rb ha.thr.buf
   have hro:ZaR m r x.loc b=true:=by
    simp[enB,ho]at hE
    exact hE.resolve_left hm
   have hlc:=ZgU k5 (.inr (.inl ho))
   exact v'n.2 ⟨(v'n.1 h.tail).1,hb.push h.gate.1 (e:=(x.loc,z'1 u row x.e)) ⟨hlc.1,hlc.2,(hvx _).1,(hvx _).2⟩ hro⟩
 split
 ·split
  ·exact Zdu (hR _ hM) _ (hvx _)
  ·exact hR _ hM
 split
 ·refine Zdu (hR _ hM) _ ?_
  exact Zfa (by have:=(hvx x.e).1;omega) (by omega)
 split
 ·exact Zdu (hR _ hM) _ (hvx _)
 ·exact h1
theorem OkC.act (h:Rt u c m r) (t:Int):OkC (v'C u c m r t):=(h.act t).okC
theorem Rt.flush (h:Rt u c m r) (t l:Int):Rt u (w'Q c m t l) m r:=by
 unfold w'Q
 cases hb:x'n c m t l with
 |false=>exact h
 |true=>
  refine ZkE h.okU ?_
  unfold x'n at hb
  split at hb
  ·rename_i b h0 hbt
   have hrb:=h.rb hbt
   rw[z'd,hbt,z'I]
   refine Zdu (ZjT h.rt (z'c.1 hbt).1 (v'n.2 ⟨(v'n.1 h.tail).1,hrb.sub (Zm5 ..)⟩)) _ ?_
   exact(hrb.el _ (ZgM hb)).2.2
  ·cases hb
end
def Off (i:Nat) (c d:Cf):Prop:= ∀k,k≠i→d.pc[k]?=c.pc[k]?∧d.regs[k]?=c.regs[k]?∧d.bufs[k]?=c.bufs[k]?
section
variable {i : Nat} {c d : Cf}
theorem Off.refl:Off i c c:=fun k _=>⟨rfl,rfl,rfl⟩
theorem Off.P (h:Off i c d) (v:Int):Off i c (setP d i v):=fun k hk=>⟨(v'y (Ne.symm hk)).trans (h k hk).1,(h k hk).2⟩
theorem Off.R (h:Off i c d) (v:List Int):Off i c (x'p d i v):=fun k hk=>⟨(h k hk).1,(v'y (Ne.symm hk)).trans (h k hk).2.1,(h k hk).2.2⟩
theorem Off.M (h:Off i c d) (j:Nat) (v:Int):Off i c (y'I d j v):=h
theorem Off.B (h:Off i c d) (v:List En):Off i c (y'1 d i v):=fun k hk=>⟨(h k hk).1,(h k hk).2.1,(v'y (Ne.symm hk)).trans (h k hk).2.2⟩
theorem Off.X (h:Off i c d) (u:Un) (m:Int) (x:Ins) (row:List Int) (b:List En):Off i c (y'B u d m i x row b):=by
 unfold y'B y'W
 split
 ·exact h.P _
 split
 ·split
  ·exact h.P _
  ·exact h
 split
 ·exact h.R _
 split
 ·exact h.R _
 split
 ·split
  ·exact h.M _ _
  ·exact h.B _
 split
 ·split
  ·exact(h.R _).M _ _
  ·exact h.R _
 split
 ·exact(h.R _).M _ _
 split
 ·exact(h.R _).M _ _
 ·exact h
end
section
variable {u : Un} {c : Cf} {m r : Int}
theorem Rt.sc (h:Rt u c 1 r) {b:List En} (hb:b∈c.bufs):b=[]:=by
 obtain⟨i,hi⟩:=x'y hb
 exact(h.rb hi).p1 rfl
end
end Go.Proofs.YtomcmfbpmkklmaaGreat
