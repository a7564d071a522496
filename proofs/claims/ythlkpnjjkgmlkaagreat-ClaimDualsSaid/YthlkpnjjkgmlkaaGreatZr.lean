/- Contracts: the reference's number of a name; a case; the known calls of chapter 11. No condition. -/
import Derived.Test.YthlkpnjjkgmlkaaGreatRi
import Derived.Test.YthlkpnjjkgmlkaaGreatYp
import Derived.Test.YthlkpnjjkgmlkaaGreatLc
import Derived.Test.YthlkpnjjkgmlkaaGreatBa
import Derived.Test.YthlkpnjjkgmlkaaGreatLa
namespace Go.Proofs.YthlkpnjjkgmlkaaGreat
set_option linter.unusedSimpArgs false
set_option linter.unusedVariables false
set_option maxRecDepth 20000
open Go Go.Proofs Go.Vc
def e11:Cf:=⟨[1,0],[[],[]],[1,0],[[],[]]⟩
structure RB (m r md lc:Int) (b:List En):Prop where
 el: ∀e,e∈b→0≤e.1∧e.1<lc∧0≤e.2∧e.2<md
 p3:m=3→Srt b∧ ∀l,((w'Q l b:Nat):Int)≤r
 p2:m=2→(b.length:Int)≤r
 p1:m=1→b=[]
theorem Ztz {b:List En} (h: ∀(i:Nat) (x y:En),b[i]?=some x→b[i+1]?=some y→x.1≤y.1):Srt b:=by
 have key: ∀(i j:Nat) (x y:En),i<j→b[i]?=some x→b[j]?=some y→x.1≤y.1:=by
  intro i j
  induction j with
  |zero=>intro x y hi;omega
  |succ j ih=>
   intro x y hi hx hy
   have hj:j+1<b.length:=(z'b.1 hy).1
   obtain⟨z,hz⟩: ∃z,b[j]?=some z:=⟨_,z'c (by omega)⟩
   have h1:=h j z y hz hy
   rcases z'i i j with h'|h'
   ·have:=ih x z h' hx hz;omega
   ·obtain rfl:i=j:=by omega
    rw[hx]at hz;cases hz;exact h1
 clear h
 induction b with
 |nil=>trivial
 |cons x r ih=>
  refine⟨fun y hy=>?_,ih fun i j a c hi ha hc=>key (i+1) (j+1) a c (by omega) (by simpa using ha) (by simpa using hc)⟩
  obtain⟨j,hj⟩:=y'k hy
  exact key 0 (j+1) x y (by omega) rfl (by simpa using hj)
theorem Zqk {l:Int} {b:List En} (h: ∀e,e∈b→e.1≠l):w'Q l b=0:=by
 unfold w'Q
 rw[List.countP_eq_zero]
 intro e he
 simpa using h e he
theorem v'U {m r md lc:Int} {b:List En}:v'T m r md lc b=true↔Zd6 m r md=true∧RB m r md lc b:=by
 constructor
 ·intro h
  have he: ∀e,e∈b→0≤e.1∧e.1<lc∧0≤e.2∧e.2<md:=fun e he=>Zj4 h he
  simp only[v'T,z'f,z'q]at h
  obtain⟨⟨h1,h2⟩,h3⟩:=h
  have hr:0≤r:=by simp only[Zd6,z'f,decide_eq_true_eq]at h1;omega
  refine⟨h1,he,fun hm=>⟨Ztz fun i x y hx hy=>?_,fun l=>?_⟩,fun hm=>?_,fun hm=>?_⟩
  ·have:=h2 (i+1) (z'U.2 (z'b.1 hy).1)
   simp[ZhR,ZkJ,hm,hx,hy]at this
   omega
  ·by_cases hl: ∃e,e∈b∧e.1=l
   ·obtain⟨e,he,rfl⟩:=hl
    obtain⟨i,hi⟩:=y'k he
    have:=h2 i (z'U.2 (z'b.1 hi).1)
    simp[ZhR,ZkJ,hm,hi]at this
    omega
   ·rw[Zqk fun e he h=>hl ⟨e,he,h⟩]
    simpa using hr
  ·subst hm
   simp[ZgQ]at h3
   rcases h3 with h3|h3
   ·omega
   ·rw[h3];simpa using hr
  ·subst hm
   simp[ZgQ]at h3
   exact h3
 ·rintro⟨h1,h⟩
  have hg:=h1
  simp only[Zd6,z'f,decide_eq_true_eq]at hg
  simp only[v'T,h1,y'Y,z'f,z'q]
  refine⟨fun i hi=>?_,?_⟩
  ·have hi:=z'U.1 hi
   obtain⟨x,hx⟩: ∃x,b[i]?=some x:=⟨_,z'c hi⟩
   have hE:=h.el x (z'l hx)
   have e1:ZnL md lc x=false:=by simp[ZnL];omega
   have e2:ZkJ m r b i x=false:=by
    unfold ZkJ
    by_cases hm:m=3
    ·obtain⟨s1,s2⟩:=h.p3 hm
     have c2:=s2 x.1
     rcases w'f i with h0|h0
     ·subst h0;simp;omega
     ·obtain⟨y,hy⟩: ∃y,b[i-1]?=some y:=⟨_,z'c (by omega)⟩
      have:=Srt.le s1 (i-1) y x hy (by rw[Nat.sub_add_cancel h0];exact hx)
      simp[hy];omega
    ·simp[hm]
   simp[ZhR,hx,e1,e2]
  ·have hm:m=1∨m=2∨m=3:=by omega
   rcases hm with hm|hm|hm
   ·rw[h.p1 hm];simp[ZgQ]
   ·have:=h.p2 hm;simp[ZgQ,hm,this]
   ·simp[ZgQ,hm]
theorem Znb (r:Nat): ∀(n:Nat) (b:List En),(∀e,e∈b→0≤e.1∧e.1<(n:Int))→(∀l,w'Q l b≤r)→b.length≤n*r
 |0,b,h,_=>by
  cases b with
  |nil=>simp
  |cons e b=>have:=h e (z'z ..);omega
 |n+1,b,h,hc=>by
  have ih:=Znb r n (b.filter fun e=> !decide (e.1=(n:Int))) (fun e he=>by
   have h1:=w'J.1 he
   have h2:=h e h1.1
   have h3:e.1≠(n:Int):=by simpa using h1.2
   omega) (fun l=>z'7 (List.filter_sublist.countP_le) (hc l))
  have hs:b.length=w'Q n b+(b.filter fun e=> !decide (e.1=(n:Int))).length:=by
   unfold w'Q
   rw[←List.countP_eq_length_filter]
   refine(List.length_eq_countP_add_countP (p:=fun x:En=>decide (x.1=(n:Int)))).trans ?_
   congr 1
   exact List.countP_congr fun x _=>by simp
  have:=hc n
  rw[Nat.succ_mul]
  omega
theorem RB.len {m r md lc:Int} {b:List En} (h:RB m r md lc b) (hm:1≤m∧m≤3) (hr:1≤r∧r≤4) (hl:lc≤6):b.length≤60:=by
 have:m=1∨m=2∨m=3:=by omega
 rcases this with hm|hm|hm
 ·rw[h.p1 hm];simp
 ·have:=h.p2 hm;omega
 ·have h3:=(h.p3 hm).2
  have:=Znb 4 6 b (fun e he=>by have:=h.el e he;omega) (fun l=>by have:=h3 l;omega)
  omega
theorem Zsq {b:List En} (h:Srt b) (e:En) (l:Int):w'Q l (w'O e b)=w'Q l b+w'Q l [e]:=by
 have:=congrArg List.length (ZhF e l b h)
 simp only[que,z'j]at this
 simpa only[w'Q,List.countP_eq_length_filter]using this
theorem Zsr (e:En) (l:Int):w'Q l [e]=if e.1=l then 1 else 0:=by
 unfold w'Q
 by_cases h:e.1=l<;>simp[h]
theorem RB.push {m r md lc:Int} {b:List En} (h:RB m r md lc b) (hm:1≤m∧m≤3) {e:En} (he:0≤e.1∧e.1<lc∧0≤e.2∧e.2<md) (hr:Zdd m r e.1 b=true):RB m r md lc (v'a m e b):=by
 have:m=1∨m=2∨m=3:=by omega
 rcases this with hm|hm|hm<;>subst hm
 ·simp[Zdd]at hr
 ·have hp:v'a 2 e b=b++[e]:=by simp[v'a]
  rw[hp]
  simp[Zdd]at hr
  refine⟨fun y hy=>?_,fun h=>by omega,fun _=>by simp;omega,fun h=>by omega⟩
  rcases y'2.1 hy with hy|hy
  ·exact h.el y hy
  ·rw[y'F.1 hy];exact he
 ·have hp:v'a 3 e b=w'O e b:=by simp[v'a]
  rw[hp]
  simp[Zdd]at hr
  obtain⟨s1,s2⟩:=h.p3 rfl
  refine⟨fun y hy=>?_,fun _=>⟨ZhG e b s1,fun l=>?_⟩,fun h=>by omega,fun h=>by omega⟩
  ·rcases(Zft e b y).1 hy with rfl|hy
   ·exact he
   ·exact h.el y hy
  ·rw[Zsq s1,Zsr]
   have:=s2 l
   split
   ·rename_i h;subst h;omega
   ·simpa using this
theorem Zqn (k:Nat) (b:List En):(v'f k b).Sublist b:=by
 unfold v'f
 have:=(z'v (b.take k)).append (List.drop_sublist_drop_left b (Nat.le_succ k))
 rwa [v'7]at this
theorem Srt.sub: ∀{a b:List En},a.Sublist b→Srt b→Srt a
 |_,_,.slnil,h=>h
 |_,_,.cons x hs,h=>Srt.sub hs h.2
 |_,_,.cons_cons x hs,h=>⟨fun y hy=>h.1 y (hs.subset hy),Srt.sub hs h.2⟩
theorem RB.sub {m r md lc:Int} {a b:List En} (h:RB m r md lc b) (hs:a.Sublist b):RB m r md lc a where
 el e he:=h.el e (hs.subset he)
 p3 hm:=⟨Srt.sub hs (h.p3 hm).1,fun l=>by have:=(h.p3 hm).2 l;have:=hs.countP_le (p:=fun x=>decide (x.1=l));unfold w'Q at*;omega⟩
 p2 hm:=by have:=h.p2 hm;have:=hs.length_le;omega
 p1 hm:=by rw[h.p1 hm]at hs;exact List.sublist_nil.1 hs
theorem Zrn (m l:Int) (b:List En):(x'R m l b).1.Sublist b:=by
 unfold x'R
 cases z'2 m l b with
 |none=>exact z'v _
 |some k=>exact Zqn k b
theorem v'b {u:Un} {c:Cf} {m r:Int}:w'V u c m r=true↔x'd u=true∧(c.pc.length=u.regs.length∧c.regs.length=u.regs.length∧c.bufs.length=u.regs.length∧c.mem.length=u.init.length)∧y'O c.mem u.md=true∧(∀t,t<u.regs.length→Zgq u c m r t=true)∧v'T m r u.md u.init.length []=true:=by
 simp only[w'V,Zii,z'f,decide_eq_true_eq,z'q,z'U]
 constructor
 ·rintro⟨⟨⟨⟨⟨⟨⟨a,b⟩,c⟩,d⟩,e⟩,f⟩,g⟩,h⟩;exact⟨a,⟨b,c,d,e⟩,f,g,h⟩
 ·rintro⟨a,⟨b,c,d,e⟩,f,g,h⟩;exact⟨⟨⟨⟨⟨⟨⟨a,b⟩,c⟩,d⟩,e⟩,f⟩,g⟩,h⟩
theorem v'J {u:Un} {c:Cf} {m r:Int} {t:Nat}:Zgq u c m r t=true↔(0≤c.pc.getD t 0∧c.pc.getD t 0<((u.code.getD t []).length:Int))∧(((c.regs.getD t []).length:Int)=u.regs.getD t 0∧y'O (c.regs.getD t []) u.md=true)∧v'T m r u.md u.init.length (c.bufs.getD t [])=true:=by
 simp only[Zgq,z'f,decide_eq_true_eq]
 constructor
 ·rintro⟨⟨⟨⟨a,b⟩,c⟩,d⟩,e⟩;exact⟨⟨a,b⟩,⟨c,d⟩,e⟩
 ·rintro⟨⟨a,b⟩,⟨c,d⟩,e⟩;exact⟨⟨⟨⟨a,b⟩,c⟩,d⟩,e⟩
theorem ZhC {α:Type} (l:List α) (i t:Nat) (v d:α) (hi:i<l.length):(l.set i v).getD t d=if t=i then v else l.getD t d:=by
 rw[z'g,z'g,v'X]
 by_cases h:t=i
 ·subst h;simp[hi]
 ·rw[if_neg (fun e=>h e.symm),if_neg h]
section
variable {u : Un} {c : Cf} {m r : Int}
theorem Znu (h:w'V u c m r=true) {i:Nat} (hi:i<c.pc.length) {v:Int} (hv:0≤v∧v<((u.code.getD i []).length:Int)):w'V u (setP c i v) m r=true:=by
 obtain⟨a,⟨b,c1,d,e⟩,f,g,k⟩:=v'b.1 h
 refine v'b.2 ⟨a,⟨by simpa[setP]using b,c1,d,e⟩,f,fun t ht=>?_,k⟩
 obtain⟨h1,h2,h3⟩:=v'J.1 (g t ht)
 refine v'J.2 ⟨?_,h2,h3⟩
 show 0≤(c.pc.set i v).getD t 0∧(c.pc.set i v).getD t 0<_
 rw[ZhC _ _ _ _ _ hi]
 split
 ·rename_i e;rw[e];exact hv
 ·exact h1
theorem Ztr (h:w'V u c m r=true) {i:Nat} (hi:i<c.regs.length) {row:List Int} (hl:row.length=(c.regs.getD i []).length) (hv:y'O row u.md=true):w'V u (x'G c i row) m r=true:=by
 obtain⟨a,⟨b,c1,d,e⟩,f,g,k⟩:=v'b.1 h
 refine v'b.2 ⟨a,⟨b,by simpa[x'G]using c1,d,e⟩,f,fun t ht=>?_,k⟩
 obtain⟨h1,h2,h3⟩:=v'J.1 (g t ht)
 refine v'J.2 ⟨h1,?_,h3⟩
 show(((c.regs.set i row).getD t []).length:Int)=_∧y'O ((c.regs.set i row).getD t []) u.md=true
 rw[ZhC _ _ _ _ _ hi]
 split
 ·rename_i e;subst e;exact⟨by rw[hl];exact h2.1,hv⟩
 ·exact h2
theorem ZeO (h:w'V u c m r=true) (i:Nat) {v:Int} (hv:0≤v∧v<u.md):w'V u (y'3 c i v) m r=true:=by
 obtain⟨a,⟨b,c1,d,e⟩,f,g,k⟩:=v'b.1 h
 exact v'b.2 ⟨a,⟨b,c1,d,by simpa[y'3]using e⟩,ZeX f i hv,fun t ht=>g t ht,k⟩
theorem Znt (h:w'V u c m r=true) {i:Nat} (hi:i<c.bufs.length) {b':List En} (hv:v'T m r u.md u.init.length b'=true):w'V u (x'X c i b') m r=true:=by
 obtain⟨a,⟨b,c1,d,e⟩,f,g,k⟩:=v'b.1 h
 refine v'b.2 ⟨a,⟨b,c1,by simpa[x'X]using d,e⟩,f,fun t ht=>?_,k⟩
 obtain⟨h1,h2,h3⟩:=v'J.1 (g t ht)
 refine v'J.2 ⟨h1,h2,?_⟩
 show v'T m r u.md u.init.length ((c.bufs.set i b').getD t [])=true
 rw[ZhC _ _ _ _ _ hi]
 split
 ·exact hv
 ·exact h3
theorem Rt.rb (h:Rt u c m r) {i:Nat} {b:List En} (hb:c.bufs[i]?=some b):RB m r u.md u.init.length b:=by
 have hl:=h.lens
 have hi:=(z'b.1 hb).1
 have:=(v'J.1 (h.thr (t:=i) (by omega))).2.2
 rw[z'g,hb,z'y]at this
 exact(v'U.1 this).2
theorem Zor (hu:OkU u) (h:w'V u c m r=true):Rt u c m r:=by
 obtain⟨a,⟨b,c1,d,e⟩,f,g,k⟩:=v'b.1 h
 have hun:=a
 simp only[x'd,v'8,z'f,decide_eq_true_eq,z'q]at a
 obtain⟨⟨⟨⟨⟨⟨⟨a1,a2⟩,a3⟩,a4⟩,a5⟩,a6⟩,a7⟩,a8⟩:=a
 have kg:Zd6 m r u.md=true:=(v'U.1 k).1
 simp only[Zd6,z'f,decide_eq_true_eq]at kg
 refine⟨hu,⟨by omega,by omega,by omega,fun rw hr=>?_,by omega,fun q hq=>?_⟩,h⟩
 ·obtain⟨i,hi⟩:=y'k hr
  have hil:=(z'b.1 hi).1
  have h2:=(v'J.1 (g i (by omega))).2.1.1
  have h3:=a8 i (z'U.2 (by omega))
  rw[z'g,hi,z'y]at h2
  simp only[Za3,z'f,decide_eq_true_eq]at h3
  omega
 ·obtain⟨i,hi⟩:=y'k hq
  have hil:=(z'b.1 hi).1
  have h3:=(v'J.1 (g i (by omega))).2.2
  rw[z'g,hi,z'y]at h3
  have:=(v'U.1 h3).2.len (by omega) (by omega) (by omega)
  omega
theorem ZjI {l:Int}: ∀{b:List En} {v:Int},v'9 l b=some v→ ∃e,e∈b∧e.1=l∧e.2=v
 |[],v,h=>by cases h
 |e::b,v,h=>by
  unfold v'9 at h
  cases hl:v'9 l b with
  |some w=>
   rw[hl]at h
   obtain⟨y,h1,h2⟩:=ZjI hl
   exact⟨y,z'd _ h1,h2.1,by simp_all⟩
  |none=>
   rw[hl]at h
   by_cases he:e.1=l
   ·exact⟨e,z'z ..,he,by simp_all⟩
   ·simp_all
theorem Zua (h:Rt u c m r) (k:Nat):0≤c.mem.getD k 0∧c.mem.getD k 0<u.md:=ZaQ h.lens.2.2.2.2 (by have:=h.uhead;omega) k
theorem Zrw (h:Rt u c m r) (t l:Int):0≤w'p c t l∧w'p c t l<u.md:=by
 have hu:=h.uhead
 unfold w'p
 split
 ·rename_i b n h1 h2 h3 h4
  cases hl:v'9 l b with
  |none=>exact Zcg h.lens.2.2.2.2 h4
  |some v=>
   obtain⟨e,he,_,rfl⟩:=ZjI hl
   exact((h.rb h2).el e he).2.2
 ·omega
theorem Rt.act (h:Rt u c m r) (t:Int):Rt u (ZfK u c m r t) m r:=by
 cases hE:enT u c m r t with
 |false=>rw[ZiG hE];exact h
 |true=>
 by_cases ht:t<0∨t≥c.pc.length
 ·rw[ZkX ht]at hE;cases hE
 obtain⟨i,rfl⟩: ∃i:Nat,t=(i:Int):=⟨t.toNat,by omega⟩
 obtain⟨x,row,b,p,ha⟩:=h.at (i:=i) (by omega)
 rw[ZmG ha,hE]
 rw[Zo0 ha.thr]at hE
 refine Zor h.okU ?_
 have hu:=h.uhead
 have hl:=h.lens
 obtain⟨rw,n,k1,k2,k3,k4,k5⟩:=ha.kind
 have hnd:x.op≠22:=fun e=>by simp[enB,e]at hE
 obtain⟨k5,k6⟩:=k5.resolve_left hnd
 have hil:i<c.pc.length:=by omega
 have hcd:u.code.getD i []=rw:=by rw[z'g,k1];rfl
 have hrd:c.regs.getD i []=row:=by rw[z'g,ha.thr.reg];rfl
 have hrl:=(z'b.1 ha.thr.reg).1
 have hbl:=(z'b.1 ha.thr.buf).1
 have hvx: ∀l,0≤y'u u row l∧y'u u row l<u.md:=fun l=>ZnI (by omega) _ _ _ _
 have hra:y'O row u.md=true:=by
  have:=(v'J.1 (h.thr (t:=i) (by omega))).2.1.2
  rwa [hrd]at this
 have hP: ∀v:Int,(0≤v∧v<(rw.length:Int))→w'V u (setP c i v) m r=true:=fun v hv=>Znu h.rt hil (by rw[hcd];exact hv)
 have h1:=hP ((p+1:Nat):Int) (by omega)
 show w'V u (x'a u (setP c i ((p+1:Nat):Int)) m i x row b) m r=true
 generalize hc1:setP c i ((p+1:Nat):Int)=c1 at h1⊢
 have e1:c1.pc.length=c.pc.length:=by subst hc1;simp[setP]
 have e2:c1.regs=c.regs:=by subst hc1;rfl
 have e3:c1.mem=c.mem:=by subst hc1;rfl
 have e4:c1.bufs=c.bufs:=by subst hc1;rfl
 have hR: ∀v:Int,(0≤v∧v<u.md)→w'V u (x'H c1 i row x v) m r=true:=fun v hv=>Ztr h1 (by rw[e2];exact hrl) (by rw[e2,hrd];simp) (ZeX hra _ hv)
 have hM:0≤y'A c1 x∧y'A c1 x<u.md:=by unfold y'A;rw[e3];exact Zua h _
 have hP1:(0≤x.to∧x.to<(rw.length:Int))→w'V u (setP c1 i x.to) m r=true:=fun hv=>Znu h1 (by omega) (by rw[hcd];exact hv)
 unfold x'a
 split
 ·rename_i ho;exact hP1 (ZpG k5 (.inl ho))
 split
 ·rename_i _ ho
  split
  ·exact hP1 (ZpG k5 (.inr ho))
  ·exact h1
 split
 ·exact hR _ (hvx _)
 split
 ·refine hR _ ?_
  have:w'p c1 (i:Nat) x.loc=w'p c (i:Nat) x.loc:=by unfold w'p;rw[e4,e3]
  rw[this]
  exact Zrw h _ _
 split
 ·rename_i ho
  split
  ·exact ZeO h1 _ (hvx _)
  ·rename_i hm
   refine Znt h1 (by rw[e4];exact hbl) ?_
   have hb:=h.rb ha.thr.buf
   have hro:Zdd m r x.loc b=true:=by
    simp[enB,ho]at hE
    exact hE.resolve_left hm
   have hlc:=Zng k5 (.inr (.inl ho))
   exact v'U.2 ⟨(v'U.1 h.tail).1,hb.push h.gate.1 (e:=(x.loc,y'u u row x.e)) ⟨hlc.1,hlc.2,(hvx _).1,(hvx _).2⟩ hro⟩
 split
 ·split
  ·exact ZeO (hR _ hM) _ (hvx _)
  ·exact hR _ hM
 split
 ·refine ZeO (hR _ hM) _ ?_
  exact ZgR (by have:=(hvx x.e).1;omega) (by omega)
 split
 ·exact ZeO (hR _ hM) _ (hvx _)
 ·exact h1
theorem OkC.act (h:Rt u c m r) (t:Int):OkC (ZfK u c m r t):=(h.act t).okC
theorem Rt.flush (h:Rt u c m r) (t l:Int):Rt u (ZaE c m t l) m r:=by
 unfold ZaE
 cases hb:w'K c m t l with
 |false=>exact h
 |true=>
  refine Zor h.okU ?_
  unfold w'K at hb
  split at hb
  ·rename_i b h0 hbt
   have hrb:=h.rb hbt
   rw[z'g,hbt,z'y]
   refine ZeO (Znt h.rt (z'b.1 hbt).1 (v'U.2 ⟨(v'U.1 h.tail).1,hrb.sub (Zrn ..)⟩)) _ ?_
   exact(hrb.el _ (Zni hb)).2.2
  ·cases hb
end
def Off (i:Nat) (c d:Cf):Prop:= ∀k,k≠i→d.pc[k]?=c.pc[k]?∧d.regs[k]?=c.regs[k]?∧d.bufs[k]?=c.bufs[k]?
section
variable {i : Nat} {c d : Cf}
theorem Off.refl:Off i c c:=fun k _=>⟨rfl,rfl,rfl⟩
theorem Off.P (h:Off i c d) (v:Int):Off i c (setP d i v):=fun k hk=>⟨(w'N (Ne.symm hk)).trans (h k hk).1,(h k hk).2⟩
theorem Off.R (h:Off i c d) (v:List Int):Off i c (x'G d i v):=fun k hk=>⟨(h k hk).1,(w'N (Ne.symm hk)).trans (h k hk).2.1,(h k hk).2.2⟩
theorem Off.M (h:Off i c d) (j:Nat) (v:Int):Off i c (y'3 d j v):=h
theorem Off.B (h:Off i c d) (v:List En):Off i c (x'X d i v):=fun k hk=>⟨(h k hk).1,(h k hk).2.1,(w'N (Ne.symm hk)).trans (h k hk).2.2⟩
theorem Off.X (h:Off i c d) (u:Un) (m:Int) (x:Ins) (row:List Int) (b:List En):Off i c (x'a u d m i x row b):=by
 unfold x'a x'H
 split
 ·exact h.P _
 split
 ·split
  ·exact h.P _
  ·exact h
 split
 ·exact h.R _
 split
 ·exact h.R _
 split
 ·split
  ·exact h.M _ _
  ·exact h.B _
 split
 ·split
  ·exact(h.R _).M _ _
  ·exact h.R _
 split
 ·exact(h.R _).M _ _
 split
 ·exact(h.R _).M _ _
 ·exact h
end
section
variable {u : Un} {c : Cf} {m r : Int}
theorem Rt.sc (h:Rt u c 1 r) {b:List En} (hb:b∈c.bufs):b=[]:=by
 obtain⟨i,hi⟩:=y'k hb
 exact(h.rb hi).p1 rfl
end
theorem Zhi {u:Un} (hu:OkU u) (hU:x'd u=true) {m r:Int} (hm:1≤m∧m≤3) (hr:1≤r∧r≤4):Rt u (x'3 u) m r:=by
 have hU':=hU
 simp only[x'd,v'8,z'f,decide_eq_true_eq,z'q]at hU'
 obtain⟨⟨⟨⟨⟨⟨⟨a1,a2⟩,a3⟩,a4⟩,a5⟩,a6⟩,a7⟩,a8⟩:=hU'
 have hnil:v'T m r u.md u.init.length []=true:=v'U.2 ⟨by simp only[Zd6,z'f,decide_eq_true_eq];omega,{el:=fun e he=>(by cases he),p3:=fun _=>⟨trivial,fun l=>(by show((0:Nat):Int)≤r;omega)⟩,p2:=fun _=>(by show((0:Nat):Int)≤r;omega),p1:=fun _=>rfl}⟩
 refine Zor hu (v'b.2 ⟨hU,⟨by simp[x'3],by simp[x'3],by simp[x'3],rfl⟩,a3,fun t ht=>?_,hnil⟩)
 obtain⟨n,hn⟩: ∃n,u.regs[t]?=some n:=⟨_,z'c ht⟩
 have hn0:=ZiE hU hn
 have h8:=a8 t (z'U.2 ht)
 simp only[Za3,z'f,decide_eq_true_eq]at h8
 refine v'J.2 ⟨?_,⟨?_,?_⟩,?_⟩
 ·have:(x'3 u).pc.getD t 0=0:=by simp[x'3,z'g,ht]
  rw[this]
  omega
 ·simp[x'3,z'g,hn]
  omega
 ·have:(x'3 u).regs.getD t []=List.replicate n.toNat 0:=by simp[x'3,z'g,hn]
  rw[this,y'O,z'q]
  intro x hx
  rw[List.eq_of_mem_replicate hx]
  exact x'e.2 ⟨by omega,by omega⟩
 ·have:(x'3 u).bufs.getD t []=[]:=by simp[x'3,z'g,ht]
  rw[this]
  exact hnil
theorem Rt.actM {u:Un} {c:Cf} {m r:Int} (h:Rt u c m r) (a:Int):Rt u (actM u c m r a) m r:=by
 unfold Go.Proofs.YthlkpnjjkgmlkaaGreat.actM
 split
 ·rename_i ag _
  cases ag with
  |th t=>exact h.act (t:Nat)
  |fl t l=>exact h.flush (t:Nat) l
 ·exact h
theorem Zsf {u:Un} {c:Cf} {m r a:Int} (h:enM u c m r a=false):actM u c m r a=c:=by
 unfold enM at h
 unfold actM
 split
 ·rename_i ag ho
  rw[ho]at h
  cases ag with
  |th t=>exact ZiG h
  |fl t l=>
   have h:w'K c m (t:Nat) l=false:=h
   show ZaE c m (t:Nat) l=c
   unfold ZaE
   rw[h]
 ·rfl
instance:DecidableEq Cf:=fun a b=>decidable_of_iff (a.pc=b.pc∧a.regs=b.regs∧a.mem=b.mem∧a.bufs=b.bufs) ⟨fun h=>by cases a;cases b;simp_all,fun h=>by subst h;simp⟩
def w't (C:List Cf):List (List D):=C.map cfC
theorem y'E (C:List Cf):(w't C).flatten.length=C.length*4:=by
 induction C with
 |nil=>rfl
 |cons c C ih=>simp only[w't,z's,y'f,z'j,z'r,z'N]at ih⊢;omega
theorem ZkP (C:List Cf) (c:Cf):(w't (C++[c])).flatten=(w't C).flatten++cfC c:=by simp[w't]
abbrev ZcZ (u:Un) (m r b:Int):Option (Spc Cf):=Zhk (fun c=>Zb4 u c m r) (fun c a=>actM u c m r a) b.toNat (x'3 u)
abbrev spC (C:List Cf) (g:Cs) (P B:List Int):List D:=[.sl false 4 (w't C),y'r g.st,y'r g.ag,y'r g.to,y'r P,y'r B]
def edS (S:Spc Cf):List Ed:=S.ed.map fun e=>((e.1:Int),e.2.1,(e.2.2:Int))
def ZdA (S:Spc Cf):Cs:=ZkM S.cf.length (edS S)
abbrev spA (S:Spc Cf):List D:=spC S.cf (ZdA S) S.pa S.ag
instance:Inhabited Cf:=⟨⟨[],[],[],[]⟩⟩
theorem w'd (C:List Cf):(w't C).length=C.length:=z'm ..
theorem Zg7 (C:List Cf): ∀r,r∈w't C→r.length=4:=by
 intro r hr
 obtain⟨x,_,rfl⟩:=z'D.1 hr
 rfl
def plI (x:Option Nat):Int:=match x with|some k=>k|none=> -1
theorem Zt2 {l:List Cf} {c:Cf} {k:Nat} (h:l[k]?=some c) (hs: ∀i,i<k→l[i]?≠some c):ZhE l c=some k:=by
 unfold ZhE
 rw[List.idxOf?,List.findIdx?_eq_some_iff_getElem]
 obtain⟨hk,he⟩:=z'b.1 h
 refine⟨hk,by simp[he],fun j hj=>?_⟩
 have:=hs j hj
 rw[z'c (by omega)]at this
 simpa using this
theorem Zt3 {l:List Cf} {c:Cf} (hs: ∀i,i<l.length→l[i]?≠some c):ZhE l c=none:=by
 cases h:ZhE l c with
 |none=>rfl
 |some k=>
  have:=Zpr h
  exact absurd this (hs k (z'b.1 this).1)
theorem Zud {u:Un} {c:Cf} {m r:Int} {A:List Ag} {k:Nat}: ∀a,a∈mvK u c m r A k→0≤a:=by
 intro a ha
 simp only[mvK,z'D]at ha
 obtain⟨i,_,rfl⟩:=ha
 omega
theorem Zq4 {u:Un} {c:Cf} {m r:Int}: ∀a,a∈Zb4 u c m r→0≤a:=Zud
theorem ZpA {u:Un} {c:Cf} {m r:Int}:(Zb4 u c m r).length≤28:=z'7 Znd (Zdp u m)
theorem Zsk {u:Un} {m r b:Int} {S:Spc Cf} (h:ZcZ u m r b=some S) (hb:1≤b) (h0:Rt u (x'3 u) m r): ∀c,c∈S.cf→Rt u c m r:=by
 obtain⟨I,_,_⟩:=Zhl h (by omega)
 intro c hc
 obtain⟨j,hj⟩:=List.mem_iff_getElem?.1 hc
 exact I.all (p:=fun c=>Rt u c m r) h0 (fun c a hc _=>hc.actM a) j c hj
theorem ZsI {u:Un} {m r b:Int} {S:Spc Cf} (h:ZcZ u m r b=some S) (hb:1≤b): ∀e,e∈edS S→0≤e.1∧e.1<S.cf.length∧0≤e.2.2∧e.2.2<S.cf.length∧0≤e.2.1:=by
 obtain⟨I,hE,hC⟩:=Zhl h (by omega)
 intro e he
 obtain⟨x,hx,rfl⟩:=z'D.1 he
 rw[hE]at hx
 obtain⟨j,hj,hx⟩:=List.mem_flatMap.1 hx
 cases hq:S.cf[j]? with
 |none=>rw[hq]at hx;cases hx
 |some c=>
  rw[hq]at hx
  obtain⟨a,ha,rfl⟩:=z'D.1 hx
  have h1:=(z'b.1 hq).1
  have h2:=List.idxOf_lt_length_of_mem (hC j c hq a ha)
  have h3:=Zq4 a ha
  dsimp only
  omega
theorem Zf6 {e eb:Nat} {ea full:Bool} {ez:List Value} {l:List Cf} {k:IntKind} {n:Int} {K:D→Prop}:
  cIndexAddr (.slice e 4 eb ea ez) (.sl full 4 (w't l)) (.is (.int k n)) K=((0≤n∧n<l.length)∧K (.pt (cfC (l.getD n.toNat default)))):=ZaX cfC default
theorem Sp.hereS {b cap:Nat} {e:TypeId} {esz:Nat} {l:List D} {X:Heap}:Sp ((b,.cells e (cap*esz) l)::X) (some (b,cap)) e esz l (fun g' l'=>shp g' e esz l' X):=Sp.here (g:=some (b,cap))
theorem Zvk {x1 x2 x3 x4:Nat×HC} {g g':Option (Nat×Nat)} {e e' esz esz':Nat} {l l':List D}:(x1::x2::x3::shp g e esz l (shp g' e' esz' l' [x4])).Perm (x1::x2::x3::x4::shp g' e' esz' l' (shp g e esz l [])):=
 y'X fun a=>by simp only[y'z,y'6,y'V];omega
theorem ZpT {α:Type} [DecidableEq α] {ac:α→Int→α} {b i:Nat} {c:α} {a:Int} {l:List Int} {S:Spc α}:v'N ac b i c (a::l) S=(stepA ac b i c S a).bind (v'N ac b i c l):=by
 rw[v'N]
 cases stepA ac b i c S a<;>rfl
theorem ZrC {α:Type} [DecidableEq α] {mv:α→List Int} {ac:α→Int→α} {b n i:Nat} {S:Spc α} {c:α} (h:S.cf[i]?=some c):w'x mv ac b (n+1) i S=(v'N ac b i c (mv c) S).bind (w'x mv ac b n (i+1)):=by
 rw[w'x,h]
 simp only
 generalize v'N ac b i c (mv c) S=x
 cases x<;>rfl
theorem ZpV {α:Type} [DecidableEq α] {mv:α→List Int} {ac:α→Int→α} {b n i:Nat} {S:Spc α} (h:S.cf.length≤i):w'x mv ac b n i S=some S:=by
 cases n with
 |zero=>rfl
 |succ n=>rw[w'x,z'M h]
theorem ZkV (S:Spc Cf) (C:List Cf) (P A:List Int) (i:Nat) (a:Int) (j:Nat):edS ⟨C,P,A,S.ed++[(i,a,j)]⟩=edS S++[((i:Int),a,(j:Int))]:=by simp[edS]
theorem Zgy (S:Spc Cf):(edS S).length=S.ed.length:=by simp[edS]
def agF (u:Un) (m:Int) (i:Nat):Ag:=if i<u.regs.length then .th i else if m=2 then .fl (i-u.regs.length) (-1)else .fl ((i-u.regs.length)/u.init.length) (((i-u.regs.length) % u.init.length:Nat):Int)
theorem ZnK {u:Un} {m:Int} {i:Nat} (h:i<(w'q u m).length):(w'q u m)[i]?=some (agF u m i)∧(u.regs.length≤i→m=2∨(m=3∧i-u.regs.length<u.regs.length*u.init.length))∧x'd u=true:=by
 have hUm:x'd u=true∧1≤m∧m≤3:=by
  by_cases h':x'd u=true∧1≤m∧m≤3
  ·exact h'
  ·rw[ZiH h']at h;simp at h
 obtain⟨hU,hm1,hm3⟩:=hUm
 unfold agF
 rcases z'i i u.regs.length with h3|h3
 ·refine⟨?_,fun h=>by omega,hU⟩
  rw[if_pos h3,w'q,if_pos ⟨hU,hm1,hm3⟩]
  exact ZuV h3 _
 rw[if_neg (by omega)]
 rcases(show m=1∨m=2∨m=3 by omega)with rfl|rfl|rfl
 ·rw[ZmM hU]at h;omega
 ·refine⟨?_,fun _=> .inl rfl,hU⟩
  rw[ZmN hU]at h
  rw[if_pos rfl,ZoO hU,Zmi h3,y'c,List.getElem?_range (by omega)]
  rfl
 ·rw[ZmO hU]at h
  have hc:i-u.regs.length<u.regs.length*u.init.length:=by omega
  have hL:0<u.init.length:=by
   rcases w'f u.init.length with h|h
   ·rw[h,Nat.mul_zero]at hc;omega
   ·exact h
  refine⟨?_,fun _=> .inr ⟨rfl,hc⟩,hU⟩
  rw[if_neg (by decide),ZoP hU,Zmi h3]
  exact Zm4 (fun t l=>Ag.fl t (l:Int)) hL _ _ hc
end Go.Proofs.YthlkpnjjkgmlkaaGreat
