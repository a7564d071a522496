/- Buffers that can be, in plain Lean. No condition. -/
import Derived.Test.YtjlnkedmbfdofaaGreatZp
namespace Go.Proofs.YtjlnkedmbfdofaaGreat
set_option linter.unusedSimpArgs false
set_option linter.unusedVariables false
open Go Go.Proofs Go.Vc
structure RB (m r md lc:Int) (b:List En):Prop where
 el: ∀e,e∈b→0≤e.1∧e.1<lc∧0≤e.2∧e.2<md
 p3:m=3→Srt b∧ ∀l,((w'0 l b:Nat):Int)≤r
 p2:m=2→(b.length:Int)≤r
 p1:m=1→b=[]
theorem Zml {b:List En} (h: ∀(i:Nat) (x y:En),b[i]?=some x→b[i+1]?=some y→x.1≤y.1):Srt b:=by
 have key: ∀(i j:Nat) (x y:En),i<j→b[i]?=some x→b[j]?=some y→x.1≤y.1:=by
  intro i j
  induction j with
  |zero=>intro x y hi;omega
  |succ j ih=>
   intro x y hi hx hy
   have hj:j+1<b.length:=(z's.1 hy).1
   obtain⟨z,hz⟩: ∃z,b[j]?=some z:=⟨_,z'l (by omega)⟩
   have h1:=h j z y hz hy
   rcases z't i j with h'|h'
   ·have:=ih x z h' hx hz;omega
   ·obtain rfl:i=j:=by omega
    rw[hx]at hz;cases hz;exact h1
 clear h
 induction b with
 |nil=>trivial
 |cons x r ih=>
  refine⟨fun y hy=>?_,ih fun i j a c hi ha hc=>key (i+1) (j+1) a c (by omega) (by simpa using ha) (by simpa using hc)⟩
  obtain⟨j,hj⟩:=y'K hy
  exact key 0 (j+1) x y (by omega) rfl (by simpa using hj)
theorem Zj8 {l:Int} {b:List En} (h: ∀e,e∈b→e.1≠l):w'0 l b=0:=by
 unfold w'0
 rw[List.countP_eq_zero]
 intro e he
 simpa using h e he
theorem x'8 {m r md lc:Int} {b:List En}:x'W m r md lc b=true↔ZbY m r md=true∧RB m r md lc b:=by
 constructor
 ·intro h
  have he: ∀e,e∈b→0≤e.1∧e.1<lc∧0≤e.2∧e.2<md:=fun e he=>Zfl h he
  simp only[x'W,z'b,z'h]at h
  obtain⟨⟨h1,h2⟩,h3⟩:=h
  have hr:0≤r:=by simp only[ZbY,z'b,decide_eq_true_eq]at h1;omega
  refine⟨h1,he,fun hm=>⟨Zml fun i x y hx hy=>?_,fun l=>?_⟩,fun hm=>?_,fun hm=>?_⟩
  ·have:=h2 (i+1) (z'J.2 (z's.1 hy).1)
   simp[ZdM,ZfP,hm,hx,hy]at this
   omega
  ·by_cases hl: ∃e,e∈b∧e.1=l
   ·obtain⟨e,he,rfl⟩:=hl
    obtain⟨i,hi⟩:=y'K he
    have:=h2 i (z'J.2 (z's.1 hi).1)
    simp[ZdM,ZfP,hm,hi]at this
    omega
   ·rw[Zj8 fun e he h=>hl ⟨e,he,h⟩]
    simpa using hr
  ·subst hm
   simp[Zc8]at h3
   rcases h3 with h3|h3
   ·omega
   ·rw[h3];simpa using hr
  ·subst hm
   simp[Zc8]at h3
   exact h3
 ·rintro⟨h1,h⟩
  have hg:=h1
  simp only[ZbY,z'b,decide_eq_true_eq]at hg
  simp only[x'W,h1,Bool.true_and,z'b,z'h]
  refine⟨fun i hi=>?_,?_⟩
  ·have hi:=z'J.1 hi
   obtain⟨x,hx⟩: ∃x,b[i]?=some x:=⟨_,z'l hi⟩
   have hE:=h.el x (z'F hx)
   have e1:Zia md lc x=false:=by simp[Zia];omega
   have e2:ZfP m r b i x=false:=by
    unfold ZfP
    by_cases hm:m=3
    ·obtain⟨s1,s2⟩:=h.p3 hm
     have c2:=s2 x.1
     rcases Nat.eq_zero_or_pos i with h0|h0
     ·subst h0;simp;omega
     ·obtain⟨y,hy⟩: ∃y,b[i-1]?=some y:=⟨_,z'l (by omega)⟩
      have:=Srt.le s1 (i-1) y x hy (by rw[Nat.sub_add_cancel h0];exact hx)
      simp[hy];omega
    ·simp[hm]
   simp[ZdM,hx,e1,e2]
  ·have hm:m=1∨m=2∨m=3:=by omega
   rcases hm with hm|hm|hm
   ·rw[h.p1 hm];simp[Zc8]
   ·have:=h.p2 hm;simp[Zc8,hm,this]
   ·simp[Zc8,hm]
theorem ZhK (r:Nat): ∀(n:Nat) (b:List En),(∀e,e∈b→0≤e.1∧e.1<(n:Int))→(∀l,w'0 l b≤r)→b.length≤n*r
 |0,b,h,_=>by
  cases b with
  |nil=>simp
  |cons e b=>have:=h e (z'k ..);omega
 |n+1,b,h,hc=>by
  have ih:=ZhK r n (b.filter fun e=> !decide (e.1=(n:Int))) (fun e he=>by
   have h1:=y'W.1 he
   have h2:=h e h1.1
   have h3:e.1≠(n:Int):=by simpa using h1.2
   omega) (fun l=>z'E (List.filter_sublist.countP_le) (hc l))
  have hs:b.length=w'0 n b+(b.filter fun e=> !decide (e.1=(n:Int))).length:=by
   unfold w'0
   rw[←List.countP_eq_length_filter]
   refine(List.length_eq_countP_add_countP (p:=fun x:En=>decide (x.1=(n:Int)))).trans ?_
   congr 1
   exact List.countP_congr fun x _=>by simp
  have:=hc n
  rw[Nat.succ_mul]
  omega
theorem RB.len {m r md lc:Int} {b:List En} (h:RB m r md lc b) (hm:1≤m∧m≤3) (hr:1≤r∧r≤4) (hl:lc≤6):b.length≤60:=by
 have:m=1∨m=2∨m=3:=by omega
 rcases this with hm|hm|hm
 ·rw[h.p1 hm];simp
 ·have:=h.p2 hm;omega
 ·have h3:=(h.p3 hm).2
  have:=ZhK 4 6 b (fun e he=>by have:=h.el e he;omega) (fun l=>by have:=h3 l;omega)
  omega
theorem ZlN {b:List En} (h:Srt b) (e:En) (l:Int):w'0 l (w'v e b)=w'0 l b+w'0 l [e]:=by
 have:=congrArg List.length (ZdD e l b h)
 simp only[que,z'r]at this
 simpa only[w'0,y'N]using this
theorem ZlO (e:En) (l:Int):w'0 l [e]=if e.1=l then 1 else 0:=by
 unfold w'0
 by_cases h:e.1=l<;>simp[h]
theorem RB.push {m r md lc:Int} {b:List En} (h:RB m r md lc b) (hm:1≤m∧m≤3) {e:En} (he:0≤e.1∧e.1<lc∧0≤e.2∧e.2<md) (hr:Zc6 m r e.1 b=true):RB m r md lc (Zaf m e b):=by
 have:m=1∨m=2∨m=3:=by omega
 rcases this with hm|hm|hm<;>subst hm
 ·simp[Zc6]at hr
 ·have hp:Zaf 2 e b=b++[e]:=by simp[Zaf]
  rw[hp]
  simp[Zc6]at hr
  refine⟨fun y hy=>?_,fun h=>by omega,fun _=>by simp;omega,fun h=>by omega⟩
  rcases y'j.1 hy with hy|hy
  ·exact h.el y hy
  ·rw[y'h.1 hy];exact he
 ·have hp:Zaf 3 e b=w'v e b:=by simp[Zaf]
  rw[hp]
  simp[Zc6]at hr
  obtain⟨s1,s2⟩:=h.p3 rfl
  refine⟨fun y hy=>?_,fun _=>⟨ZdE e b s1,fun l=>?_⟩,fun h=>by omega,fun h=>by omega⟩
  ·rcases(Zb1 e b y).1 hy with rfl|hy
   ·exact he
   ·exact h.el y hy
  ·rw[ZlN s1,ZlO]
   have:=s2 l
   split
   ·rename_i h;subst h;omega
   ·simpa using this
theorem Zka (k:Nat) (b:List En):(v'e k b).Sublist b:=by
 unfold v'e
 have:=(z'V (b.take k)).append (List.drop_sublist_drop_left b (Nat.le_succ k))
 rwa [x'S]at this
theorem Srt.sub: ∀{a b:List En},a.Sublist b→Srt b→Srt a
 |_,_,.slnil,h=>h
 |_,_,.cons x hs,h=>Srt.sub hs h.2
 |_,_,.cons_cons x hs,h=>⟨fun y hy=>h.1 y (hs.subset hy),Srt.sub hs h.2⟩
theorem RB.sub {m r md lc:Int} {a b:List En} (h:RB m r md lc b) (hs:a.Sublist b):RB m r md lc a where
 el e he:=h.el e (hs.subset he)
 p3 hm:=⟨Srt.sub hs (h.p3 hm).1,fun l=>by have:=(h.p3 hm).2 l;have:=hs.countP_le (p:=fun x=>decide (x.1=l));unfold w'0 at*;omega⟩
 p2 hm:=by have:=h.p2 hm;have:=hs.length_le;omega
 p1 hm:=by rw[h.p1 hm]at hs;exact List.sublist_nil.1 hs
theorem ZkT (m l:Int) (b:List En):(ZaC m l b).1.Sublist b:=by
 unfold ZaC
 cases v'N m l b with
 |none=>exact z'V _
 |some k=>exact Zka k b
theorem x't {u:Un} {c:Cf} {m r:Int}:y'3 u c m r=true↔Zca u=true∧(c.pc.length=u.regs.length∧c.regs.length=u.regs.length∧c.bufs.length=u.regs.length∧c.mem.length=u.init.length)∧y'G c.mem u.md=true∧(∀t,t<u.regs.length→ZdK u c m r t=true)∧x'W m r u.md u.init.length []=true:=by
 simp only[y'3,Zeb,z'b,decide_eq_true_eq,z'h,z'J]
 constructor
 ·rintro⟨⟨⟨⟨⟨⟨⟨a,b⟩,c⟩,d⟩,e⟩,f⟩,g⟩,h⟩;exact⟨a,⟨b,c,d,e⟩,f,g,h⟩
 ·rintro⟨a,⟨b,c,d,e⟩,f,g,h⟩;exact⟨⟨⟨⟨⟨⟨⟨a,b⟩,c⟩,d⟩,e⟩,f⟩,g⟩,h⟩
theorem x'Q {u:Un} {c:Cf} {m r:Int} {t:Nat}:ZdK u c m r t=true↔(0≤c.pc.getD t 0∧c.pc.getD t 0<((u.code.getD t []).length:Int))∧(((c.regs.getD t []).length:Int)=u.regs.getD t 0∧y'G (c.regs.getD t []) u.md=true)∧x'W m r u.md u.init.length (c.bufs.getD t [])=true:=by
 simp only[ZdK,z'b,decide_eq_true_eq]
 constructor
 ·rintro⟨⟨⟨⟨a,b⟩,c⟩,d⟩,e⟩;exact⟨⟨a,b⟩,⟨c,d⟩,e⟩
 ·rintro⟨⟨a,b⟩,⟨c,d⟩,e⟩;exact⟨⟨⟨⟨a,b⟩,c⟩,d⟩,e⟩
theorem ZdB {α:Type} (l:List α) (i t:Nat) (v d:α) (hi:i<l.length):(l.set i v).getD t d=if t=i then v else l.getD t d:=by
 rw[z'e,z'e,List.getElem?_set]
 by_cases h:t=i
 ·subst h;simp[hi]
 ·rw[if_neg (fun e=>h e.symm),if_neg h]
section
variable {u : Un} {c : Cf} {m r : Int}
theorem Zh0 (h:y'3 u c m r=true) {i:Nat} (hi:i<c.pc.length) {v:Int} (hv:0≤v∧v<((u.code.getD i []).length:Int)):y'3 u (setP c i v) m r=true:=by
 obtain⟨a,⟨b,c1,d,e⟩,f,g,k⟩:=x't.1 h
 refine x't.2 ⟨a,⟨by simpa[setP]using b,c1,d,e⟩,f,fun t ht=>?_,k⟩
 obtain⟨h1,h2,h3⟩:=x'Q.1 (g t ht)
 refine x'Q.2 ⟨?_,h2,h3⟩
 show 0≤(c.pc.set i v).getD t 0∧(c.pc.set i v).getD t 0<_
 rw[ZdB _ _ _ _ _ hi]
 split
 ·rename_i e;rw[e];exact hv
 ·exact h1
theorem Zmk (h:y'3 u c m r=true) {i:Nat} (hi:i<c.regs.length) {row:List Int} (hl:row.length=(c.regs.getD i []).length) (hv:y'G row u.md=true):y'3 u (ZiX c i row) m r=true:=by
 obtain⟨a,⟨b,c1,d,e⟩,f,g,k⟩:=x't.1 h
 refine x't.2 ⟨a,⟨b,by simpa[ZiX]using c1,d,e⟩,f,fun t ht=>?_,k⟩
 obtain⟨h1,h2,h3⟩:=x'Q.1 (g t ht)
 refine x'Q.2 ⟨h1,?_,h3⟩
 show(((c.regs.set i row).getD t []).length:Int)=_∧y'G ((c.regs.set i row).getD t []) u.md=true
 rw[ZdB _ _ _ _ _ hi]
 split
 ·rename_i e;subst e;exact⟨by rw[hl];exact h2.1,hv⟩
 ·exact h2
theorem Zbo (h:y'3 u c m r=true) (i:Nat) {v:Int} (hv:0≤v∧v<u.md):y'3 u (ZaH c i v) m r=true:=by
 obtain⟨a,⟨b,c1,d,e⟩,f,g,k⟩:=x't.1 h
 exact x't.2 ⟨a,⟨b,c1,d,by simpa[ZaH]using e⟩,Zbt f i hv,fun t ht=>g t ht,k⟩
theorem ZhZ (h:y'3 u c m r=true) {i:Nat} (hi:i<c.bufs.length) {b':List En} (hv:x'W m r u.md u.init.length b'=true):y'3 u (ZcI c i b') m r=true:=by
 obtain⟨a,⟨b,c1,d,e⟩,f,g,k⟩:=x't.1 h
 refine x't.2 ⟨a,⟨b,c1,by simpa[ZcI]using d,e⟩,f,fun t ht=>?_,k⟩
 obtain⟨h1,h2,h3⟩:=x'Q.1 (g t ht)
 refine x'Q.2 ⟨h1,h2,?_⟩
 show x'W m r u.md u.init.length ((c.bufs.set i b').getD t [])=true
 rw[ZdB _ _ _ _ _ hi]
 split
 ·exact hv
 ·exact h3
theorem Rt.rb (h:Rt u c m r) {i:Nat} {b:List En} (hb:c.bufs[i]?=some b):RB m r u.md u.init.length b:=by
 have hl:=h.lens
 have hi:=(z's.1 hb).1
 have:=(x'Q.1 (h.thr (t:=i) (by omega))).2.2
 rw[z'e,hb,z'K]at this
 exact(x'8.1 this).2
theorem ZlA (hu:OkU u) (h:y'3 u c m r=true):Rt u c m r:=by
 obtain⟨a,⟨b,c1,d,e⟩,f,g,k⟩:=x't.1 h
 have hun:=a
 simp only[Zca,ZiK,z'b,decide_eq_true_eq,z'h]at a
 obtain⟨⟨⟨⟨⟨⟨⟨a1,a2⟩,a3⟩,a4⟩,a5⟩,a6⟩,a7⟩,a8⟩:=a
 have kg:ZbY m r u.md=true:=(x'8.1 k).1
 simp only[ZbY,z'b,decide_eq_true_eq]at kg
 refine⟨hu,⟨by omega,by omega,by omega,fun rw hr=>?_,by omega,fun q hq=>?_⟩,h⟩
 ·obtain⟨i,hi⟩:=y'K hr
  have hil:=(z's.1 hi).1
  have h2:=(x'Q.1 (g i (by omega))).2.1.1
  have h3:=a8 i (z'J.2 (by omega))
  rw[z'e,hi,z'K]at h2
  simp only[ZiS,z'b,decide_eq_true_eq]at h3
  omega
 ·obtain⟨i,hi⟩:=y'K hq
  have hil:=(z's.1 hi).1
  have h3:=(x'Q.1 (g i (by omega))).2.2
  rw[z'e,hi,z'K]at h3
  have:=(x'8.1 h3).2.len (by omega) (by omega) (by omega)
  omega
theorem Zfd {l:Int}: ∀{b:List En} {v:Int},ZaY l b=some v→ ∃e,e∈b∧e.1=l∧e.2=v
 |[],v,h=>by cases h
 |e::b,v,h=>by
  unfold ZaY at h
  cases hl:ZaY l b with
  |some w=>
   rw[hl]at h
   obtain⟨y,h1,h2⟩:=Zfd hl
   exact⟨y,z'n _ h1,h2.1,by simp_all⟩
  |none=>
   rw[hl]at h
   by_cases he:e.1=l
   ·exact⟨e,z'k ..,he,by simp_all⟩
   ·simp_all
theorem ZmZ (h:Rt u c m r) (k:Nat):0≤c.mem.getD k 0∧c.mem.getD k 0<u.md:=w'n h.lens.2.2.2.2 (by have:=h.uhead;omega) k
theorem ZkZ (h:Rt u c m r) (t l:Int):0≤ZaZ c t l∧ZaZ c t l<u.md:=by
 have hu:=h.uhead
 unfold ZaZ
 split
 ·rename_i b n h1 h2 h3 h4
  cases hl:ZaY l b with
  |none=>exact ZfM h.lens.2.2.2.2 h4
  |some v=>
   obtain⟨e,he,_,rfl⟩:=Zfd hl
   exact((h.rb h2).el e he).2.2
 ·omega
theorem Rt.act (h:Rt u c m r) (t:Int):Rt u (Zdn u c m r t) m r:=by
 cases hE:enT u c m r t with
 |false=>rw[ZlK hE];exact h
 |true=>
 by_cases ht:t<0∨t≥c.pc.length
 ·rw[ZmI ht]at hE;cases hE
 obtain⟨i,rfl⟩: ∃i:Nat,t=(i:Int):=⟨t.toNat,by omega⟩
 obtain⟨x,row,b,p,ha⟩:=h.at (i:=i) (by omega)
 rw[ZlJ ha,hE]
 rw[ZmH ha.thr]at hE
 refine ZlA h.okU ?_
 have hu:=h.uhead
 have hl:=h.lens
 obtain⟨rw,n,k1,k2,k3,k4,k5⟩:=ha.kind
 have hnd:x.op≠22:=fun e=>by simp[enB,e]at hE
 obtain⟨k5,k6⟩:=k5.resolve_left hnd
 have hil:i<c.pc.length:=by omega
 have hcd:u.code.getD i []=rw:=by rw[z'e,k1];rfl
 have hrd:c.regs.getD i []=row:=by rw[z'e,ha.thr.reg];rfl
 have hrl:=(z's.1 ha.thr.reg).1
 have hbl:=(z's.1 ha.thr.buf).1
 have hvx: ∀l,0≤w'A u row l∧w'A u row l<u.md:=fun l=>Zh7 (by omega) _ _ _ _
 have hra:y'G row u.md=true:=by
  have:=(x'Q.1 (h.thr (t:=i) (by omega))).2.1.2
  rwa [hrd]at this
 have hP: ∀v:Int,(0≤v∧v<(rw.length:Int))→y'3 u (setP c i v) m r=true:=fun v hv=>Zh0 h.rt hil (by rw[hcd];exact hv)
 have h1:=hP ((p+1:Nat):Int) (by omega)
 show y'3 u (Zbd u (setP c i ((p+1:Nat):Int)) m i x row b) m r=true
 generalize hc1:setP c i ((p+1:Nat):Int)=c1 at h1⊢
 have e1:c1.pc.length=c.pc.length:=by subst hc1;simp[setP]
 have e2:c1.regs=c.regs:=by subst hc1;rfl
 have e3:c1.mem=c.mem:=by subst hc1;rfl
 have e4:c1.bufs=c.bufs:=by subst hc1;rfl
 have hR: ∀v:Int,(0≤v∧v<u.md)→y'3 u (Za1 c1 i row x v) m r=true:=fun v hv=>Zmk h1 (by rw[e2];exact hrl) (by rw[e2,hrd];simp) (Zbt hra _ hv)
 have hM:0≤Zb5 c1 x∧Zb5 c1 x<u.md:=by unfold Zb5;rw[e3];exact ZmZ h _
 have hP1:(0≤x.to∧x.to<(rw.length:Int))→y'3 u (setP c1 i x.to) m r=true:=fun hv=>Zh0 h1 (by omega) (by rw[hcd];exact hv)
 unfold Zbd
 split
 ·rename_i ho;exact hP1 (ZjQ k5 (.inl ho))
 split
 ·rename_i _ ho
  split
  ·exact hP1 (ZjQ k5 (.inr ho))
  ·exact h1
 split
 ·exact hR _ (hvx _)
 split
 ·refine hR _ ?_
  have:ZaZ c1 (i:Nat) x.loc=ZaZ c (i:Nat) x.loc:=by unfold ZaZ;rw[e4,e3]
  rw[this]
  exact ZkZ h _ _
 split
 ·rename_i ho
  split
  ·exact Zbo h1 _ (hvx _)
  ·rename_i hm
   refine ZhZ h1 (by rw[e4];exact hbl) ?_
   have hb:=h.rb ha.thr.buf
   have hro:Zc6 m r x.loc b=true:=by
    simp[enB,ho]at hE
    exact hE.resolve_left hm
   have hlc:=ZhN k5 (.inr (.inl ho))
   exact x'8.2 ⟨(x'8.1 h.tail).1,hb.push h.gate.1 (e:=(x.loc,w'A u row x.e)) ⟨hlc.1,hlc.2,(hvx _).1,(hvx _).2⟩ hro⟩
 split
 ·split
  ·exact Zbo (hR _ hM) _ (hvx _)
  ·exact hR _ hM
 split
 ·refine Zbo (hR _ hM) _ ?_
  exact Zc9 (by have:=(hvx x.e).1;omega) (by omega)
 split
 ·exact Zbo (hR _ hM) _ (hvx _)
 ·exact h1
theorem OkC.act (h:Rt u c m r) (t:Int):OkC (Zdn u c m r t):=(h.act t).okC
theorem Rt.flush (h:Rt u c m r) (t l:Int):Rt u (Zcg c m t l) m r:=by
 unfold Zcg
 cases hb:ZdQ c m t l with
 |false=>exact h
 |true=>
  refine ZlA h.okU ?_
  unfold ZdQ at hb
  split at hb
  ·rename_i b h0 hbt
   have hrb:=h.rb hbt
   rw[z'e,hbt,z'K]
   refine Zbo (ZhZ h.rt (z's.1 hbt).1 (x'8.2 ⟨(x'8.1 h.tail).1,hrb.sub (ZkT ..)⟩)) _ ?_
   exact(hrb.el _ (Zmf hb)).2.2
  ·cases hb
end
end Go.Proofs.YtjlnkedmbfdofaaGreat
