/- Buffers that can be, in plain Lean. No condition. -/
import Derived.Test.YtfneeacgkdhldaaGreatZm
namespace Go.Proofs.YtfneeacgkdhldaaGreat
set_option linter.unusedSimpArgs false
set_option linter.unusedVariables false
open Go Go.Proofs Go.Vc
structure RB (m r md lc:Int) (b:List En):Prop where
 el: ∀e,e∈b→0≤e.1∧e.1<lc∧0≤e.2∧e.2<md
 p3:m=3→Srt b∧ ∀l,((x'W l b:Nat):Int)≤r
 p2:m=2→(b.length:Int)≤r
 p1:m=1→b=[]
theorem ZoH {b:List En} (h: ∀(i:Nat) (x y:En),b[i]?=some x→b[i+1]?=some y→x.1≤y.1):Srt b:=by
 have key: ∀(i j:Nat) (x y:En),i<j→b[i]?=some x→b[j]?=some y→x.1≤y.1:=by
  intro i j
  induction j with
  |zero=>intro x y hi;omega
  |succ j ih=>
   intro x y hi hx hy
   have hj:j+1<b.length:=(z'c.1 hy).1
   obtain⟨z,hz⟩: ∃z,b[j]?=some z:=⟨_,z'b (by omega)⟩
   have h1:=h j z y hz hy
   rcases z'g i j with h'|h'
   ·have:=ih x z h' hx hz;omega
   ·obtain rfl:i=j:=by omega
    rw[hx]at hz;cases hz;exact h1
 clear h
 induction b with
 |nil=>trivial
 |cons x r ih=>
  refine⟨fun y hy=>?_,ih fun i j a c hi ha hc=>key (i+1) (j+1) a c (by omega) (by simpa using ha) (by simpa using hc)⟩
  obtain⟨j,hj⟩:=y'S hy
  exact key 0 (j+1) x y (by omega) rfl (by simpa using hj)
theorem Zl0 {l:Int} {b:List En} (h: ∀e,e∈b→e.1≠l):x'W l b=0:=by
 unfold x'W
 rw[List.countP_eq_zero]
 intro e he
 simpa using h e he
theorem v'N {m r md lc:Int} {b:List En}:v'M m r md lc b=true↔ZcG m r md=true∧RB m r md lc b:=by
 constructor
 ·intro h
  have he: ∀e,e∈b→0≤e.1∧e.1<lc∧0≤e.2∧e.2<md:=fun e he=>ZgT h he
  simp only[v'M,z'i,z'I]at h
  obtain⟨⟨h1,h2⟩,h3⟩:=h
  have hr:0≤r:=by simp only[ZcG,z'i,decide_eq_true_eq]at h1;omega
  refine⟨h1,he,fun hm=>⟨ZoH fun i x y hx hy=>?_,fun l=>?_⟩,fun hm=>?_,fun hm=>?_⟩
  ·have:=h2 (i+1) (z'G.2 (z'c.1 hy).1)
   simp[Zft,Zhp,hm,hx,hy]at this
   omega
  ·by_cases hl: ∃e,e∈b∧e.1=l
   ·obtain⟨e,he,rfl⟩:=hl
    obtain⟨i,hi⟩:=y'S he
    have:=h2 i (z'G.2 (z'c.1 hi).1)
    simp[Zft,Zhp,hm,hi]at this
    omega
   ·rw[Zl0 fun e he h=>hl ⟨e,he,h⟩]
    simpa using hr
  ·subst hm
   simp[ZeE]at h3
   rcases h3 with h3|h3
   ·omega
   ·rw[h3];simpa using hr
  ·subst hm
   simp[ZeE]at h3
   exact h3
 ·rintro⟨h1,h⟩
  have hg:=h1
  simp only[ZcG,z'i,decide_eq_true_eq]at hg
  simp only[v'M,h1,z'W,z'i,z'I]
  refine⟨fun i hi=>?_,?_⟩
  ·have hi:=z'G.1 hi
   obtain⟨x,hx⟩: ∃x,b[i]?=some x:=⟨_,z'b hi⟩
   have hE:=h.el x (z'h hx)
   have e1:ZjG md lc x=false:=by simp[ZjG];omega
   have e2:Zhp m r b i x=false:=by
    unfold Zhp
    by_cases hm:m=3
    ·obtain⟨s1,s2⟩:=h.p3 hm
     have c2:=s2 x.1
     rcases y'3 i with h0|h0
     ·subst h0;simp;omega
     ·obtain⟨y,hy⟩: ∃y,b[i-1]?=some y:=⟨_,z'b (by omega)⟩
      have:=Srt.le s1 (i-1) y x hy (by rw[Nat.sub_add_cancel h0];exact hx)
      simp[hy];omega
    ·simp[hm]
   simp[Zft,hx,e1,e2]
  ·have hm:m=1∨m=2∨m=3:=by omega
   rcases hm with hm|hm|hm
   ·rw[h.p1 hm];simp[ZeE]
   ·have:=h.p2 hm;simp[ZeE,hm,this]
   ·simp[ZeE,hm]
theorem Zi6 (r:Nat): ∀(n:Nat) (b:List En),(∀e,e∈b→0≤e.1∧e.1<(n:Int))→(∀l,x'W l b≤r)→b.length≤n*r
 |0,b,h,_=>by
  cases b with
  |nil=>simp
  |cons e b=>have:=h e (z'D ..);omega
 |n+1,b,h,hc=>by
  have ih:=Zi6 r n (b.filter fun e=> !decide (e.1=(n:Int))) (fun e he=>by
   have h1:=y'x.1 he
   have h2:=h e h1.1
   have h3:e.1≠(n:Int):=by simpa using h1.2
   omega) (fun l=>y'z (List.filter_sublist.countP_le) (hc l))
  have hs:b.length=x'W n b+(b.filter fun e=> !decide (e.1=(n:Int))).length:=by
   unfold x'W
   rw[←List.countP_eq_length_filter]
   refine(List.length_eq_countP_add_countP (p:=fun x:En=>decide (x.1=(n:Int)))).trans ?_
   congr 1
   exact List.countP_congr fun x _=>by simp
  have:=hc n
  rw[Nat.succ_mul]
  omega
theorem RB.len {m r md lc:Int} {b:List En} (h:RB m r md lc b) (hm:1≤m∧m≤3) (hr:1≤r∧r≤4) (hl:lc≤6):b.length≤60:=by
 have:m=1∨m=2∨m=3:=by omega
 rcases this with hm|hm|hm
 ·rw[h.p1 hm];simp
 ·have:=h.p2 hm;omega
 ·have h3:=(h.p3 hm).2
  have:=Zi6 4 6 b (fun e he=>by have:=h.el e he;omega) (fun l=>by have:=h3 l;omega)
  omega
theorem Znv {b:List En} (h:Srt b) (e:En) (l:Int):x'W l (w'h e b)=x'W l b+x'W l [e]:=by
 have:=congrArg List.length (Zfa e l b h)
 simp only[que,z'o]at this
 simpa only[x'W,List.countP_eq_length_filter]using this
theorem Znw (e:En) (l:Int):x'W l [e]=if e.1=l then 1 else 0:=by
 unfold x'W
 by_cases h:e.1=l<;>simp[h]
theorem RB.push {m r md lc:Int} {b:List En} (h:RB m r md lc b) (hm:1≤m∧m≤3) {e:En} (he:0≤e.1∧e.1<lc∧0≤e.2∧e.2<md) (hr:ZaY m r e.1 b=true):RB m r md lc (w'c m e b):=by
 have:m=1∨m=2∨m=3:=by omega
 rcases this with hm|hm|hm<;>subst hm
 ·simp[ZaY]at hr
 ·have hp:w'c 2 e b=b++[e]:=by simp[w'c]
  rw[hp]
  simp[ZaY]at hr
  refine⟨fun y hy=>?_,fun h=>by omega,fun _=>by simp;omega,fun h=>by omega⟩
  rcases y'g.1 hy with hy|hy
  ·exact h.el y hy
  ·rw[y'E.1 hy];exact he
 ·have hp:w'c 3 e b=w'h e b:=by simp[w'c]
  rw[hp]
  simp[ZaY]at hr
  obtain⟨s1,s2⟩:=h.p3 rfl
  refine⟨fun y hy=>?_,fun _=>⟨Zfb e b s1,fun l=>?_⟩,fun h=>by omega,fun h=>by omega⟩
  ·rcases(Zdy e b y).1 hy with rfl|hy
   ·exact he
   ·exact h.el y hy
  ·rw[Znv s1,Znw]
   have:=s2 l
   split
   ·rename_i h;subst h;omega
   ·simpa using this
theorem Zl4 (k:Nat) (b:List En):(w'u k b).Sublist b:=by
 unfold w'u
 have:=(z'p (b.take k)).append (List.drop_sublist_drop_left b (Nat.le_succ k))
 rwa [v'X]at this
theorem Srt.sub: ∀{a b:List En},a.Sublist b→Srt b→Srt a
 |_,_,.slnil,h=>h
 |_,_,.cons x hs,h=>Srt.sub hs h.2
 |_,_,.cons_cons x hs,h=>⟨fun y hy=>h.1 y (hs.subset hy),Srt.sub hs h.2⟩
theorem RB.sub {m r md lc:Int} {a b:List En} (h:RB m r md lc b) (hs:a.Sublist b):RB m r md lc a where
 el e he:=h.el e (hs.subset he)
 p3 hm:=⟨Srt.sub hs (h.p3 hm).1,fun l=>by have:=(h.p3 hm).2 l;have:=hs.countP_le (p:=fun x=>decide (x.1=l));unfold x'W at*;omega⟩
 p2 hm:=by have:=h.p2 hm;have:=hs.length_le;omega
 p1 hm:=by rw[h.p1 hm]at hs;exact List.sublist_nil.1 hs
theorem ZmC (m l:Int) (b:List En):(y'T m l b).1.Sublist b:=by
 unfold y'T
 cases z'U m l b with
 |none=>exact z'p _
 |some k=>exact Zl4 k b
theorem w'2 {u:Un} {c:Cf} {m r:Int}:w'M u c m r=true↔y't u=true∧(c.pc.length=u.regs.length∧c.regs.length=u.regs.length∧c.bufs.length=u.regs.length∧c.mem.length=u.init.length)∧y'W c.mem u.md=true∧(∀t,t<u.regs.length→Zfm u c m r t=true)∧v'M m r u.md u.init.length []=true:=by
 simp only[w'M,ZfH,z'i,decide_eq_true_eq,z'I,z'G]
 constructor
 ·rintro⟨⟨⟨⟨⟨⟨⟨a,b⟩,c⟩,d⟩,e⟩,f⟩,g⟩,h⟩;exact⟨a,⟨b,c,d,e⟩,f,g,h⟩
 ·rintro⟨a,⟨b,c,d,e⟩,f,g,h⟩;exact⟨⟨⟨⟨⟨⟨⟨a,b⟩,c⟩,d⟩,e⟩,f⟩,g⟩,h⟩
theorem v'w {u:Un} {c:Cf} {m r:Int} {t:Nat}:Zfm u c m r t=true↔(0≤c.pc.getD t 0∧c.pc.getD t 0<((u.code.getD t []).length:Int))∧(((c.regs.getD t []).length:Int)=u.regs.getD t 0∧y'W (c.regs.getD t []) u.md=true)∧v'M m r u.md u.init.length (c.bufs.getD t [])=true:=by
 simp only[Zfm,z'i,decide_eq_true_eq]
 constructor
 ·rintro⟨⟨⟨⟨a,b⟩,c⟩,d⟩,e⟩;exact⟨⟨a,b⟩,⟨c,d⟩,e⟩
 ·rintro⟨⟨a,b⟩,⟨c,d⟩,e⟩;exact⟨⟨⟨⟨a,b⟩,c⟩,d⟩,e⟩
theorem Ze6 {α:Type} (l:List α) (i t:Nat) (v d:α) (hi:i<l.length):(l.set i v).getD t d=if t=i then v else l.getD t d:=by
 rw[z'e,z'e,v'P]
 by_cases h:t=i
 ·subst h;simp[hi]
 ·rw[if_neg (fun e=>h e.symm),if_neg h]
section
variable {u : Un} {c : Cf} {m r : Int}
theorem Zji (h:w'M u c m r=true) {i:Nat} (hi:i<c.pc.length) {v:Int} (hv:0≤v∧v<((u.code.getD i []).length:Int)):w'M u (setP c i v) m r=true:=by
 obtain⟨a,⟨b,c1,d,e⟩,f,g,k⟩:=w'2.1 h
 refine w'2.2 ⟨a,⟨by simpa[setP]using b,c1,d,e⟩,f,fun t ht=>?_,k⟩
 obtain⟨h1,h2,h3⟩:=v'w.1 (g t ht)
 refine v'w.2 ⟨?_,h2,h3⟩
 show 0≤(c.pc.set i v).getD t 0∧(c.pc.set i v).getD t 0<_
 rw[Ze6 _ _ _ _ _ hi]
 split
 ·rename_i e;rw[e];exact hv
 ·exact h1
theorem Zoz (h:w'M u c m r=true) {i:Nat} (hi:i<c.regs.length) {row:List Int} (hl:row.length=(c.regs.getD i []).length) (hv:y'W row u.md=true):w'M u (x'p c i row) m r=true:=by
 obtain⟨a,⟨b,c1,d,e⟩,f,g,k⟩:=w'2.1 h
 refine w'2.2 ⟨a,⟨b,by simpa[x'p]using c1,d,e⟩,f,fun t ht=>?_,k⟩
 obtain⟨h1,h2,h3⟩:=v'w.1 (g t ht)
 refine v'w.2 ⟨h1,?_,h3⟩
 show(((c.regs.set i row).getD t []).length:Int)=_∧y'W ((c.regs.set i row).getD t []) u.md=true
 rw[Ze6 _ _ _ _ _ hi]
 split
 ·rename_i e;subst e;exact⟨by rw[hl];exact h2.1,hv⟩
 ·exact h2
theorem Zdd (h:w'M u c m r=true) (i:Nat) {v:Int} (hv:0≤v∧v<u.md):w'M u (y'N c i v) m r=true:=by
 obtain⟨a,⟨b,c1,d,e⟩,f,g,k⟩:=w'2.1 h
 exact w'2.2 ⟨a,⟨b,c1,d,by simpa[y'N]using e⟩,Zdn f i hv,fun t ht=>g t ht,k⟩
theorem Zjh (h:w'M u c m r=true) {i:Nat} (hi:i<c.bufs.length) {b':List En} (hv:v'M m r u.md u.init.length b'=true):w'M u (x'v c i b') m r=true:=by
 obtain⟨a,⟨b,c1,d,e⟩,f,g,k⟩:=w'2.1 h
 refine w'2.2 ⟨a,⟨b,c1,by simpa[x'v]using d,e⟩,f,fun t ht=>?_,k⟩
 obtain⟨h1,h2,h3⟩:=v'w.1 (g t ht)
 refine v'w.2 ⟨h1,h2,?_⟩
 show v'M m r u.md u.init.length ((c.bufs.set i b').getD t [])=true
 rw[Ze6 _ _ _ _ _ hi]
 split
 ·exact hv
 ·exact h3
theorem Rt.rb (h:Rt u c m r) {i:Nat} {b:List En} (hb:c.bufs[i]?=some b):RB m r u.md u.init.length b:=by
 have hl:=h.lens
 have hi:=(z'c.1 hb).1
 have:=(v'w.1 (h.thr (t:=i) (by omega))).2.2
 rw[z'e,hb,z'L]at this
 exact(v'N.1 this).2
theorem Zj1 (hu:OkU u) (h:w'M u c m r=true):Rt u c m r:=by
 obtain⟨a,⟨b,c1,d,e⟩,f,g,k⟩:=w'2.1 h
 have hun:=a
 simp only[y't,w'H,z'i,decide_eq_true_eq,z'I]at a
 obtain⟨⟨⟨⟨⟨⟨⟨a1,a2⟩,a3⟩,a4⟩,a5⟩,a6⟩,a7⟩,a8⟩:=a
 have kg:ZcG m r u.md=true:=(v'N.1 k).1
 simp only[ZcG,z'i,decide_eq_true_eq]at kg
 refine⟨hu,⟨by omega,by omega,by omega,fun rw hr=>?_,by omega,fun q hq=>?_⟩,h⟩
 ·obtain⟨i,hi⟩:=y'S hr
  have hil:=(z'c.1 hi).1
  have h2:=(v'w.1 (g i (by omega))).2.1.1
  have h3:=a8 i (z'G.2 (by omega))
  rw[z'e,hi,z'L]at h2
  simp only[v'D,z'i,decide_eq_true_eq]at h3
  omega
 ·obtain⟨i,hi⟩:=y'S hq
  have hil:=(z'c.1 hi).1
  have h3:=(v'w.1 (g i (by omega))).2.2
  rw[z'e,hi,z'L]at h3
  have:=(v'N.1 h3).2.len (by omega) (by omega) (by omega)
  omega
theorem ZgG {l:Int}: ∀{b:List En} {v:Int},w'9 l b=some v→ ∃e,e∈b∧e.1=l∧e.2=v
 |[],v,h=>by cases h
 |e::b,v,h=>by
  unfold w'9 at h
  cases hl:w'9 l b with
  |some w=>
   rw[hl]at h
   obtain⟨y,h1,h2⟩:=ZgG hl
   exact⟨y,z'd _ h1,h2.1,by simp_all⟩
  |none=>
   rw[hl]at h
   by_cases he:e.1=l
   ·exact⟨e,z'D ..,he,by simp_all⟩
   ·simp_all
theorem Zpl (h:Rt u c m r) (k:Nat):0≤c.mem.getD k 0∧c.mem.getD k 0<u.md:=Zav h.lens.2.2.2.2 (by have:=h.uhead;omega) k
theorem ZmQ (h:Rt u c m r) (t l:Int):0≤x'u c t l∧x'u c t l<u.md:=by
 have hu:=h.uhead
 unfold x'u
 split
 ·rename_i b n h1 h2 h3 h4
  cases hl:w'9 l b with
  |none=>exact Zbz h.lens.2.2.2.2 h4
  |some v=>
   obtain⟨e,he,_,rfl⟩:=ZgG hl
   exact((h.rb h2).el e he).2.2
 ·omega
theorem Rt.act (h:Rt u c m r) (t:Int):Rt u (Zb2 u c m r t) m r:=by
 cases hE:enT u c m r t with
 |false=>rw[Zer hE];exact h
 |true=>
 by_cases ht:t<0∨t≥c.pc.length
 ·rw[Zd4 ht]at hE;cases hE
 obtain⟨i,rfl⟩: ∃i:Nat,t=(i:Int):=⟨t.toNat,by omega⟩
 obtain⟨x,row,b,p,ha⟩:=h.at (i:=i) (by omega)
 rw[Zf7 ha,hE]
 rw[ZfB ha.thr]at hE
 refine Zj1 h.okU ?_
 have hu:=h.uhead
 have hl:=h.lens
 obtain⟨rw,n,k1,k2,k3,k4,k5⟩:=ha.kind
 have hnd:x.op≠22:=fun e=>by simp[enB,e]at hE
 obtain⟨k5,k6⟩:=k5.resolve_left hnd
 have hil:i<c.pc.length:=by omega
 have hcd:u.code.getD i []=rw:=by rw[z'e,k1];rfl
 have hrd:c.regs.getD i []=row:=by rw[z'e,ha.thr.reg];rfl
 have hrl:=(z'c.1 ha.thr.reg).1
 have hbl:=(z'c.1 ha.thr.buf).1
 have hvx: ∀l,0≤z'3 u row l∧z'3 u row l<u.md:=fun l=>Zjw (by omega) _ _ _ _
 have hra:y'W row u.md=true:=by
  have:=(v'w.1 (h.thr (t:=i) (by omega))).2.1.2
  rwa [hrd]at this
 have hP: ∀v:Int,(0≤v∧v<(rw.length:Int))→w'M u (setP c i v) m r=true:=fun v hv=>Zji h.rt hil (by rw[hcd];exact hv)
 have h1:=hP ((p+1:Nat):Int) (by omega)
 show w'M u (y'R u (setP c i ((p+1:Nat):Int)) m i x row b) m r=true
 generalize hc1:setP c i ((p+1:Nat):Int)=c1 at h1⊢
 have e1:c1.pc.length=c.pc.length:=by subst hc1;simp[setP]
 have e2:c1.regs=c.regs:=by subst hc1;rfl
 have e3:c1.mem=c.mem:=by subst hc1;rfl
 have e4:c1.bufs=c.bufs:=by subst hc1;rfl
 have hR: ∀v:Int,(0≤v∧v<u.md)→w'M u (y'2 c1 i row x v) m r=true:=fun v hv=>Zoz h1 (by rw[e2];exact hrl) (by rw[e2,hrd];simp) (Zdn hra _ hv)
 have hM:0≤y'j c1 x∧y'j c1 x<u.md:=by unfold y'j;rw[e3];exact Zpl h _
 have hP1:(0≤x.to∧x.to<(rw.length:Int))→w'M u (setP c1 i x.to) m r=true:=fun hv=>Zji h1 (by omega) (by rw[hcd];exact hv)
 unfold y'R
 split
 ·rename_i ho;exact hP1 (Zk7 k5 (.inl ho))
 split
 ·rename_i _ ho
  split
  ·exact hP1 (Zk7 k5 (.inr ho))
  ·exact h1
 split
 ·exact hR _ (hvx _)
 split
 ·refine hR _ ?_
  have:x'u c1 (i:Nat) x.loc=x'u c (i:Nat) x.loc:=by unfold x'u;rw[e4,e3]
  rw[this]
  exact ZmQ h _ _
 split
 ·rename_i ho
  split
  ·exact Zdd h1 _ (hvx _)
  ·rename_i hm
   refine Zjh h1 (by rw[e4];exact hbl) ?_
   have hb:=h.rb ha.thr.buf
   have hro:ZaY m r x.loc b=true:=by
    simp[enB,ho]at hE
    exact hE.resolve_left hm
   have hlc:=Zja k5 (.inr (.inl ho))
   exact v'N.2 ⟨(v'N.1 h.tail).1,hb.push h.gate.1 (e:=(x.loc,z'3 u row x.e)) ⟨hlc.1,hlc.2,(hvx _).1,(hvx _).2⟩ hro⟩
 split
 ·split
  ·exact Zdd (hR _ hM) _ (hvx _)
  ·exact hR _ hM
 split
 ·refine Zdd (hR _ hM) _ ?_
  exact ZeF (by have:=(hvx x.e).1;omega) (by omega)
 split
 ·exact Zdd (hR _ hM) _ (hvx _)
 ·exact h1
theorem OkC.act (h:Rt u c m r) (t:Int):OkC (Zb2 u c m r t):=(h.act t).okC
theorem Rt.flush (h:Rt u c m r) (t l:Int):Rt u (w'3 c m t l) m r:=by
 unfold w'3
 cases hb:x'H c m t l with
 |false=>exact h
 |true=>
  refine Zj1 h.okU ?_
  unfold x'H at hb
  split at hb
  ·rename_i b h0 hbt
   have hrb:=h.rb hbt
   rw[z'e,hbt,z'L]
   refine Zdd (Zjh h.rt (z'c.1 hbt).1 (v'N.2 ⟨(v'N.1 h.tail).1,hrb.sub (ZmC ..)⟩)) _ ?_
   exact(hrb.el _ (Zgk hb)).2.2
  ·cases hb
end
def Off (i:Nat) (c d:Cf):Prop:= ∀k,k≠i→d.pc[k]?=c.pc[k]?∧d.regs[k]?=c.regs[k]?∧d.bufs[k]?=c.bufs[k]?
section
variable {i : Nat} {c d : Cf}
theorem Off.refl:Off i c c:=fun k _=>⟨rfl,rfl,rfl⟩
theorem Off.P (h:Off i c d) (v:Int):Off i c (setP d i v):=fun k hk=>⟨(v'7 (Ne.symm hk)).trans (h k hk).1,(h k hk).2⟩
theorem Off.R (h:Off i c d) (v:List Int):Off i c (x'p d i v):=fun k hk=>⟨(h k hk).1,(v'7 (Ne.symm hk)).trans (h k hk).2.1,(h k hk).2.2⟩
theorem Off.M (h:Off i c d) (j:Nat) (v:Int):Off i c (y'N d j v):=h
theorem Off.B (h:Off i c d) (v:List En):Off i c (x'v d i v):=fun k hk=>⟨(h k hk).1,(h k hk).2.1,(v'7 (Ne.symm hk)).trans (h k hk).2.2⟩
theorem Off.X (h:Off i c d) (u:Un) (m:Int) (x:Ins) (row:List Int) (b:List En):Off i c (y'R u d m i x row b):=by
 unfold y'R y'2
 split
 ·exact h.P _
 split
 ·split
  ·exact h.P _
  ·exact h
 split
 ·exact h.R _
 split
 ·exact h.R _
 split
 ·split
  ·exact h.M _ _
  ·exact h.B _
 split
 ·split
  ·exact(h.R _).M _ _
  ·exact h.R _
 split
 ·exact(h.R _).M _ _
 split
 ·exact(h.R _).M _ _
 ·exact h
end
section
variable {u : Un} {c : Cf} {m r : Int}
theorem Rt.sc (h:Rt u c 1 r) {b:List En} (hb:b∈c.bufs):b=[]:=by
 obtain⟨i,hi⟩:=y'S hb
 exact(h.rb hi).p1 rfl
end
end Go.Proofs.YtfneeacgkdhldaaGreat
