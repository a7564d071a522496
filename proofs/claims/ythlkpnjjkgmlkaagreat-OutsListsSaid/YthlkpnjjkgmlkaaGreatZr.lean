/- Contracts: the reference's agents and names. No condition. -/
import Derived.Test.YthlkpnjjkgmlkaaGreatRi
import Derived.Test.YthlkpnjjkgmlkaaGreatYr
import Derived.Test.YthlkpnjjkgmlkaaGreatZq
import Derived.Test.YthlkpnjjkgmlkaaGreatBa
import Derived.Test.YthlkpnjjkgmlkaaGreatXe
namespace Go.Proofs.YthlkpnjjkgmlkaaGreat
set_option linter.unusedSimpArgs false
set_option linter.unusedVariables false
set_option maxRecDepth 20000
open Go Go.Proofs Go.Vc
attribute [local irreducible] x'c VCg VCw VCx
theorem x'E {u:Un} {c:Cf} {m r:Int}:x'i u c m r=true↔y'G u=true∧(c.pc.length=u.regs.length∧c.regs.length=u.regs.length∧c.bufs.length=u.regs.length∧c.mem.length=u.init.length)∧y'E c.mem u.md=true∧(∀t,t<u.regs.length→Zat u c m r t=true)∧x'm m r u.md u.init.length []=true:=by
 simp only[x'i,v'W,z'c,decide_eq_true_eq,z'o,z'Q]
 constructor
 ·rintro⟨⟨⟨⟨⟨⟨⟨a,b⟩,c⟩,d⟩,e⟩,f⟩,g⟩,h⟩;exact⟨a,⟨b,c,d,e⟩,f,g,h⟩
 ·rintro⟨a,⟨b,c,d,e⟩,f,g,h⟩;exact⟨⟨⟨⟨⟨⟨⟨a,b⟩,c⟩,d⟩,e⟩,f⟩,g⟩,h⟩
theorem w'G {u:Un} {c:Cf} {m r:Int} {t:Nat}:Zat u c m r t=true↔(0≤c.pc.getD t 0∧c.pc.getD t 0<((u.code.getD t []).length:Int))∧(((c.regs.getD t []).length:Int)=u.regs.getD t 0∧y'E (c.regs.getD t []) u.md=true)∧x'm m r u.md u.init.length (c.bufs.getD t [])=true:=by
 simp only[Zat,z'c,decide_eq_true_eq]
 constructor
 ·rintro⟨⟨⟨⟨a,b⟩,c⟩,d⟩,e⟩;exact⟨⟨a,b⟩,⟨c,d⟩,e⟩
 ·rintro⟨⟨a,b⟩,⟨c,d⟩,e⟩;exact⟨⟨⟨⟨a,b⟩,c⟩,d⟩,e⟩
theorem ZgN {α:Type} (l:List α) (i t:Nat) (v d:α) (hi:i<l.length):(l.set i v).getD t d=if t=i then v else l.getD t d:=by
 rw[z'd,z'd,List.getElem?_set]
 by_cases h:t=i
 ·subst h;simp[hi]
 ·rw[if_neg (fun e=>h e.symm),if_neg h]
section
variable {u : Un} {c : Cf} {m r : Int}
theorem ZmY (h:x'i u c m r=true) {i:Nat} (hi:i<c.pc.length) {v:Int} (hv:0≤v∧v<((u.code.getD i []).length:Int)):x'i u (setP c i v) m r=true:=by
 obtain⟨a,⟨b,c1,d,e⟩,f,g,k⟩:=x'E.1 h
 refine x'E.2 ⟨a,⟨by simpa[setP]using b,c1,d,e⟩,f,fun t ht=>?_,k⟩
 obtain⟨h1,h2,h3⟩:=w'G.1 (g t ht)
 refine w'G.2 ⟨?_,h2,h3⟩
 show 0≤(c.pc.set i v).getD t 0∧(c.pc.set i v).getD t 0<_
 rw[ZgN _ _ _ _ _ hi]
 split
 ·rename_i e;rw[e];exact hv
 ·exact h1
theorem ZsK (h:x'i u c m r=true) {i:Nat} (hi:i<c.regs.length) {row:List Int} (hl:row.length=(c.regs.getD i []).length) (hv:y'E row u.md=true):x'i u (ZdI c i row) m r=true:=by
 obtain⟨a,⟨b,c1,d,e⟩,f,g,k⟩:=x'E.1 h
 refine x'E.2 ⟨a,⟨b,by simpa[ZdI]using c1,d,e⟩,f,fun t ht=>?_,k⟩
 obtain⟨h1,h2,h3⟩:=w'G.1 (g t ht)
 refine w'G.2 ⟨h1,?_,h3⟩
 show(((c.regs.set i row).getD t []).length:Int)=_∧y'E ((c.regs.set i row).getD t []) u.md=true
 rw[ZgN _ _ _ _ _ hi]
 split
 ·rename_i e;subst e;exact⟨by rw[hl];exact h2.1,hv⟩
 ·exact h2
theorem ZdZ (h:x'i u c m r=true) (i:Nat) {v:Int} (hv:0≤v∧v<u.md):x'i u (w'w c i v) m r=true:=by
 obtain⟨a,⟨b,c1,d,e⟩,f,g,k⟩:=x'E.1 h
 exact x'E.2 ⟨a,⟨b,c1,d,by simpa[w'w]using e⟩,Zea f i hv,fun t ht=>g t ht,k⟩
theorem ZmX (h:x'i u c m r=true) {i:Nat} (hi:i<c.bufs.length) {b':List En} (hv:x'm m r u.md u.init.length b'=true):x'i u (v'G c i b') m r=true:=by
 obtain⟨a,⟨b,c1,d,e⟩,f,g,k⟩:=x'E.1 h
 refine x'E.2 ⟨a,⟨b,c1,by simpa[v'G]using d,e⟩,f,fun t ht=>?_,k⟩
 obtain⟨h1,h2,h3⟩:=w'G.1 (g t ht)
 refine w'G.2 ⟨h1,h2,?_⟩
 show x'm m r u.md u.init.length ((c.bufs.set i b').getD t [])=true
 rw[ZgN _ _ _ _ _ hi]
 split
 ·exact hv
 ·exact h3
theorem Rt.rb (h:Rt u c m r) {i:Nat} {b:List En} (hb:c.bufs[i]?=some b):RB m r u.md u.init.length b:=by
 have hl:=h.lens
 have hi:=(z'g.1 hb).1
 have:=(w'G.1 (h.thr (t:=i) (by omega))).2.2
 rw[z'd,hb,z'M]at this
 exact(w'r.1 this).2
theorem ZnU (hu:OkU u) (h:x'i u c m r=true):Rt u c m r:=by
 obtain⟨a,⟨b,c1,d,e⟩,f,g,k⟩:=x'E.1 h
 have hun:=a
 simp only[y'G,w'Y,z'c,decide_eq_true_eq,z'o]at a
 obtain⟨⟨⟨⟨⟨⟨⟨a1,a2⟩,a3⟩,a4⟩,a5⟩,a6⟩,a7⟩,a8⟩:=a
 have kg:ZaH m r u.md=true:=(w'r.1 k).1
 simp only[ZaH,z'c,decide_eq_true_eq]at kg
 refine⟨hu,⟨by omega,by omega,by omega,fun rw hr=>?_,by omega,fun q hq=>?_⟩,h⟩
 ·obtain⟨i,hi⟩:=y'W hr
  have hil:=(z'g.1 hi).1
  have h2:=(w'G.1 (g i (by omega))).2.1.1
  have h3:=a8 i (z'Q.2 (by omega))
  rw[z'd,hi,z'M]at h2
  simp only[Zcr,z'c,decide_eq_true_eq]at h3
  omega
 ·obtain⟨i,hi⟩:=y'W hq
  have hil:=(z'g.1 hi).1
  have h3:=(w'G.1 (g i (by omega))).2.2
  rw[z'd,hi,z'M]at h3
  have:=(w'r.1 h3).2.len (by omega) (by omega) (by omega)
  omega
theorem Zi3 {l:Int}: ∀{b:List En} {v:Int},v'k l b=some v→ ∃e,e∈b∧e.1=l∧e.2=v
 |[],v,h=>by cases h
 |e::b,v,h=>by
  unfold v'k at h
  cases hl:v'k l b with
  |some w=>
   rw[hl]at h
   obtain⟨y,h1,h2⟩:=Zi3 hl
   exact⟨y,z'k _ h1,h2.1,by simp_all⟩
  |none=>
   rw[hl]at h
   by_cases he:e.1=l
   ·exact⟨e,z'n ..,he,by simp_all⟩
   ·simp_all
theorem Zty (h:Rt u c m r) (k:Nat):0≤c.mem.getD k 0∧c.mem.getD k 0<u.md:=v'Z h.lens.2.2.2.2 (by have:=h.uhead;omega) k
theorem Zq2 (h:Rt u c m r) (t l:Int):0≤w'g c t l∧w'g c t l<u.md:=by
 have hu:=h.uhead
 unfold w'g
 split
 ·rename_i b n h1 h2 h3 h4
  cases hl:v'k l b with
  |none=>exact Zd9 h.lens.2.2.2.2 h4
  |some v=>
   obtain⟨e,he,_,rfl⟩:=Zi3 hl
   exact((h.rb h2).el e he).2.2
 ·omega
theorem Rt.act (h:Rt u c m r) (t:Int):Rt u (ZcJ u c m r t) m r:=by
 cases hE:enT u c m r t with
 |false=>rw[Zl4 hE];exact h
 |true=>
 by_cases ht:t<0∨t≥c.pc.length
 ·rw[Zj5 ht]at hE;cases hE
 obtain⟨i,rfl⟩: ∃i:Nat,t=(i:Int):=⟨t.toNat,by omega⟩
 obtain⟨x,row,b,p,ha⟩:=h.at (i:=i) (by omega)
 rw[Zl3 ha,hE]
 rw[Zj4 ha.thr]at hE
 refine ZnU h.okU ?_
 have hu:=h.uhead
 have hl:=h.lens
 obtain⟨rw,n,k1,k2,k3,k4,k5⟩:=ha.kind
 have hnd:x.op≠22:=fun e=>by simp[enB,e]at hE
 obtain⟨k5,k6⟩:=k5.resolve_left hnd
 have hil:i<c.pc.length:=by omega
 have hcd:u.code.getD i []=rw:=by rw[z'd,k1];rfl
 have hrd:c.regs.getD i []=row:=by rw[z'd,ha.thr.reg];rfl
 have hrl:=(z'g.1 ha.thr.reg).1
 have hbl:=(z'g.1 ha.thr.buf).1
 have hvx: ∀l,0≤y'P u row l∧y'P u row l<u.md:=fun l=>Zm9 (by omega) _ _ _ _
 have hra:y'E row u.md=true:=by
  have:=(w'G.1 (h.thr (t:=i) (by omega))).2.1.2
  rwa [hrd]at this
 have hP: ∀v:Int,(0≤v∧v<(rw.length:Int))→x'i u (setP c i v) m r=true:=fun v hv=>ZmY h.rt hil (by rw[hcd];exact hv)
 have h1:=hP ((p+1:Nat):Int) (by omega)
 show x'i u (w'4 u (setP c i ((p+1:Nat):Int)) m i x row b) m r=true
 generalize hc1:setP c i ((p+1:Nat):Int)=c1 at h1⊢
 have e1:c1.pc.length=c.pc.length:=by subst hc1;simp[setP]
 have e2:c1.regs=c.regs:=by subst hc1;rfl
 have e3:c1.mem=c.mem:=by subst hc1;rfl
 have e4:c1.bufs=c.bufs:=by subst hc1;rfl
 have hR: ∀v:Int,(0≤v∧v<u.md)→x'i u (w'D c1 i row x v) m r=true:=fun v hv=>ZsK h1 (by rw[e2];exact hrl) (by rw[e2,hrd];simp) (Zea hra _ hv)
 have hM:0≤x'H c1 x∧x'H c1 x<u.md:=by unfold x'H;rw[e3];exact Zty h _
 have hP1:(0≤x.to∧x.to<(rw.length:Int))→x'i u (setP c1 i x.to) m r=true:=fun hv=>ZmY h1 (by omega) (by rw[hcd];exact hv)
 unfold w'4
 split
 ·rename_i ho;exact hP1 (Zpd k5 (.inl ho))
 split
 ·rename_i _ ho
  split
  ·exact hP1 (Zpd k5 (.inr ho))
  ·exact h1
 split
 ·exact hR _ (hvx _)
 split
 ·refine hR _ ?_
  have:w'g c1 (i:Nat) x.loc=w'g c (i:Nat) x.loc:=by unfold w'g;rw[e4,e3]
  rw[this]
  exact Zq2 h _ _
 split
 ·rename_i ho
  split
  ·exact ZdZ h1 _ (hvx _)
  ·rename_i hm
   refine ZmX h1 (by rw[e4];exact hbl) ?_
   have hb:=h.rb ha.thr.buf
   have hro:Zcz m r x.loc b=true:=by
    simp[enB,ho]at hE
    exact hE.resolve_left hm
   have hlc:=ZmJ k5 (.inr (.inl ho))
   exact w'r.2 ⟨(w'r.1 h.tail).1,hb.push h.gate.1 (e:=(x.loc,y'P u row x.e)) ⟨hlc.1,hlc.2,(hvx _).1,(hvx _).2⟩ hro⟩
 split
 ·split
  ·exact ZdZ (hR _ hM) _ (hvx _)
  ·exact hR _ hM
 split
 ·refine ZdZ (hR _ hM) _ ?_
  exact Zgc (by have:=(hvx x.e).1;omega) (by omega)
 split
 ·exact ZdZ (hR _ hM) _ (hvx _)
 ·exact h1
theorem OkC.act (h:Rt u c m r) (t:Int):OkC (ZcJ u c m r t):=(h.act t).okC
theorem Rt.flush (h:Rt u c m r) (t l:Int):Rt u (Zay c m t l) m r:=by
 unfold Zay
 cases hb:w't c m t l with
 |false=>exact h
 |true=>
  refine ZnU h.okU ?_
  unfold w't at hb
  split at hb
  ·rename_i b h0 hbt
   have hrb:=h.rb hbt
   rw[z'd,hbt,z'M]
   refine ZdZ (ZmX h.rt (z'g.1 hbt).1 (w'r.2 ⟨(w'r.1 h.tail).1,hrb.sub (ZqT ..)⟩)) _ ?_
   exact(hrb.el _ (ZmM hb)).2.2
  ·cases hb
end
def Off (i:Nat) (c d:Cf):Prop:= ∀k,k≠i→d.pc[k]?=c.pc[k]?∧d.regs[k]?=c.regs[k]?∧d.bufs[k]?=c.bufs[k]?
section
variable {i : Nat} {c d : Cf}
theorem Off.refl:Off i c c:=fun k _=>⟨rfl,rfl,rfl⟩
theorem Off.P (h:Off i c d) (v:Int):Off i c (setP d i v):=fun k hk=>⟨(x'M (Ne.symm hk)).trans (h k hk).1,(h k hk).2⟩
theorem Off.R (h:Off i c d) (v:List Int):Off i c (ZdI d i v):=fun k hk=>⟨(h k hk).1,(x'M (Ne.symm hk)).trans (h k hk).2.1,(h k hk).2.2⟩
theorem Off.M (h:Off i c d) (j:Nat) (v:Int):Off i c (w'w d j v):=h
theorem Off.B (h:Off i c d) (v:List En):Off i c (v'G d i v):=fun k hk=>⟨(h k hk).1,(h k hk).2.1,(x'M (Ne.symm hk)).trans (h k hk).2.2⟩
theorem Off.X (h:Off i c d) (u:Un) (m:Int) (x:Ins) (row:List Int) (b:List En):Off i c (w'4 u d m i x row b):=by
 unfold w'4 w'D
 split
 ·exact h.P _
 split
 ·split
  ·exact h.P _
  ·exact h
 split
 ·exact h.R _
 split
 ·exact h.R _
 split
 ·split
  ·exact h.M _ _
  ·exact h.B _
 split
 ·split
  ·exact(h.R _).M _ _
  ·exact h.R _
 split
 ·exact(h.R _).M _ _
 split
 ·exact(h.R _).M _ _
 ·exact h
end
section
variable {u : Un} {c : Cf} {m r : Int}
theorem Rt.sc (h:Rt u c 1 r) {b:List En} (hb:b∈c.bufs):b=[]:=by
 obtain⟨i,hi⟩:=y'W hb
 exact(h.rb hi).p1 rfl
end
theorem Zgv {u:Un} (hu:OkU u) (hU:y'G u=true) {m r:Int} (hm:1≤m∧m≤3) (hr:1≤r∧r≤4):Rt u (x'n u) m r:=by
 have hU':=hU
 simp only[y'G,w'Y,z'c,decide_eq_true_eq,z'o]at hU'
 obtain⟨⟨⟨⟨⟨⟨⟨a1,a2⟩,a3⟩,a4⟩,a5⟩,a6⟩,a7⟩,a8⟩:=hU'
 have hnil:x'm m r u.md u.init.length []=true:=w'r.2 ⟨by simp only[ZaH,z'c,decide_eq_true_eq];omega,{el:=fun e he=>(by cases he),p3:=fun _=>⟨trivial,fun l=>(by show((0:Nat):Int)≤r;omega)⟩,p2:=fun _=>(by show((0:Nat):Int)≤r;omega),p1:=fun _=>rfl}⟩
 refine ZnU hu (x'E.2 ⟨hU,⟨by simp[x'n],by simp[x'n],by simp[x'n],rfl⟩,a3,fun t ht=>?_,hnil⟩)
 obtain⟨n,hn⟩: ∃n,u.regs[t]?=some n:=⟨_,z'b ht⟩
 have hn0:=Zh0 hU hn
 have h8:=a8 t (z'Q.2 ht)
 simp only[Zcr,z'c,decide_eq_true_eq]at h8
 refine w'G.2 ⟨?_,⟨?_,?_⟩,?_⟩
 ·have:(x'n u).pc.getD t 0=0:=by simp[x'n,z'd,ht]
  rw[this]
  omega
 ·simp[x'n,z'd,hn]
  omega
 ·have:(x'n u).regs.getD t []=List.replicate n.toNat 0:=by simp[x'n,z'd,hn]
  rw[this,y'E,z'o]
  intro x hx
  rw[List.eq_of_mem_replicate hx]
  exact y'1.2 ⟨by omega,by omega⟩
 ·have:(x'n u).bufs.getD t []=[]:=by simp[x'n,z'd,ht]
  rw[this]
  exact hnil
theorem Rt.actM {u:Un} {c:Cf} {m r:Int} (h:Rt u c m r) (a:Int):Rt u (actM u c m r a) m r:=by
 unfold Go.Proofs.YthlkpnjjkgmlkaaGreat.actM
 split
 ·rename_i ag _
  cases ag with
  |th t=>exact h.act (t:Nat)
  |fl t l=>exact h.flush (t:Nat) l
 ·exact h
instance:DecidableEq Cf:=fun a b=>decidable_of_iff (a.pc=b.pc∧a.regs=b.regs∧a.mem=b.mem∧a.bufs=b.bufs) ⟨fun h=>by cases a;cases b;simp_all,fun h=>by subst h;simp⟩
def x'J (C:List Cf):List (List D):=C.map cfC
theorem Zgi (C:List Cf):(x'J C).flatten.length=C.length*4:=by
 induction C with
 |nil=>rfl
 |cons c C ih=>simp only[x'J,z'm,z'R,z'h,z'u,z'2]at ih⊢;omega
theorem ZjX (C:List Cf) (c:Cf):(x'J (C++[c])).flatten=(x'J C).flatten++cfC c:=by simp[x'J]
abbrev Zdx (u:Un) (m r b:Int):Option (Spc Cf):=Zgz (fun c=>Zbr u c m r) (fun c a=>actM u c m r a) b.toNat (x'n u)
abbrev spC (C:List Cf) (g:Cs) (P B:List Int):List D:=[.sl false 4 (x'J C),y'c g.st,y'c g.ag,y'c g.to,y'c P,y'c B]
def edS (S:Spc Cf):List Ed:=S.ed.map fun e=>((e.1:Int),e.2.1,(e.2.2:Int))
def Zir (S:Spc Cf):Cs:=v'J S.cf.length (edS S)
abbrev spA (S:Spc Cf):List D:=spC S.cf (Zir S) S.pa S.ag
instance:Inhabited Cf:=⟨⟨[],[],[],[]⟩⟩
theorem Zoo (C:List Cf):(x'J C).length=C.length:=z'i ..
theorem ZlR (C:List Cf): ∀r,r∈x'J C→r.length=4:=by
 intro r hr
 obtain⟨x,_,rfl⟩:=z'p.1 hr
 rfl
theorem Ztz {u:Un} {c:Cf} {m r:Int} {A:List Ag} {k:Nat}: ∀a,a∈mvK u c m r A k→0≤a:=by
 intro a ha
 simp only[mvK,z'p]at ha
 obtain⟨i,_,rfl⟩:=ha
 omega
theorem ZqD {u:Un} {c:Cf} {m r:Int}: ∀a,a∈Zbr u c m r→0≤a:=Ztz
theorem Zo5 {u:Un} {c:Cf} {m r:Int}:(Zbr u c m r).length≤28:=z'3 ZmE (Zgy u m)
theorem Zsb {u:Un} {m r b:Int} {S:Spc Cf} (h:Zdx u m r b=some S) (hb:1≤b): ∀e,e∈edS S→0≤e.1∧e.1<S.cf.length∧0≤e.2.2∧e.2.2<S.cf.length∧0≤e.2.1:=by
 obtain⟨I,hE,hC⟩:=ZjP h (by omega)
 intro e he
 obtain⟨x,hx,rfl⟩:=z'p.1 he
 rw[hE]at hx
 obtain⟨j,hj,hx⟩:=List.mem_flatMap.1 hx
 cases hq:S.cf[j]? with
 |none=>rw[hq]at hx;cases hx
 |some c=>
  rw[hq]at hx
  obtain⟨a,ha,rfl⟩:=z'p.1 hx
  have h1:=(z'g.1 hq).1
  have h2:=List.idxOf_lt_length_of_mem (hC j c hq a ha)
  have h3:=ZqD a ha
  dsimp only
  omega
theorem ZoV {e eb:Nat} {ea full:Bool} {ez:List Value} {l:List Cf} {k:IntKind} {n:Int} {K:D→Prop}:
  cIndexAddr (.slice e 4 eb ea ez) (.sl full 4 (x'J l)) (.is (.int k n)) K=((0≤n∧n<l.length)∧K (.pt (cfC (l.getD n.toNat default)))):=ZcW cfC default
theorem Zpp {α:Type} [DecidableEq α] {ac:α→Int→α} {b i:Nat} {c:α} {a:Int} {l:List Int} {S:Spc α}:w'0 ac b i c (a::l) S=(stepA ac b i c S a).bind (w'0 ac b i c l):=by
 rw[w'0]
 cases stepA ac b i c S a<;>rfl
theorem Zq5 {α:Type} [DecidableEq α] {mv:α→List Int} {ac:α→Int→α} {b n i:Nat} {S:Spc α} {c:α} (h:S.cf[i]?=some c):x'U mv ac b (n+1) i S=(w'0 ac b i c (mv c) S).bind (x'U mv ac b n (i+1)):=by
 rw[x'U,h]
 simp only
 generalize w'0 ac b i c (mv c) S=x
 cases x<;>rfl
theorem Zps {α:Type} [DecidableEq α] {mv:α→List Int} {ac:α→Int→α} {b n i:Nat} {S:Spc α} (h:S.cf.length≤i):x'U mv ac b n i S=some S:=by
 cases n with
 |zero=>rfl
 |succ n=>rw[x'U,z'L h]
theorem Zj3 (S:Spc Cf) (C:List Cf) (P A:List Int) (i:Nat) (a:Int) (j:Nat):edS ⟨C,P,A,S.ed++[(i,a,j)]⟩=edS S++[((i:Int),a,(j:Int))]:=by simp[edS]
theorem ZfO (S:Spc Cf):(edS S).length=S.ed.length:=by simp[edS]
end Go.Proofs.YthlkpnjjkgmlkaaGreat
