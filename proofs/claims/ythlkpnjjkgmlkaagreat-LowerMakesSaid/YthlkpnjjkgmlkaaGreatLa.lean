/- Graphs, node by node, in plain Lean. No condition. -/
import Derived.Test.YthlkpnjjkgmlkaaGreatXa
import Derived.Test.YthlkpnjjkgmlkaaGreatYd
import Derived.Test.YthlkpnjjkgmlkaaGreatYi
import Derived.Test.YthlkpnjjkgmlkaaGreatXe
namespace Go.Proofs.YthlkpnjjkgmlkaaGreat
set_option linter.unusedSimpArgs false
set_option linter.unusedVariables false
open Go Go.Proofs Go.Vc
attribute [local irreducible] x'r VCg VCw VCx
abbrev Ed:=Int×Int×Int
def Zt7 (l:List Ed) (i:Nat):List Ed:=l.filter fun e=>e.1 == (i:Int)
def upE (l:List Ed) (i:Nat):List Ed:=(List.range i).flatMap (Zt7 l)
structure Cs where
 st:List Int
 ag:List Int
 to:List Int
set_option maxRecDepth 20000
theorem v'M {α:Type} {l:List α} {i:Nat} {d:α} (h:i<l.length):l[i]?=some (l.getD i d):=by
 rw[z'f,z'k h];rfl
theorem w'3 {α:Type} {l:List α} {i:Nat} {x d:α} (h:l[i]?=some x):l.getD i d=x:=by rw[z'f,h];rfl
theorem Zam {α:Type} (f:α→List D) (d:α) {e esz eb:Nat} {ea full:Bool} {ez:List Value} {l:List α} {k:IntKind} {n:Int} {K:D→Prop}:
  cIndexAddr (.slice e esz eb ea ez) (.sl full esz (l.map f)) (.is (.int k n)) K=((0≤n∧n<l.length)∧K (.pt (f (l.getD n.toNat d)))):=by
 simp only[cIndexAddr,z'i,z'K,eq_iff_iff]
 constructor
 ·rintro⟨h,r,h1,_,h2⟩
  have hl:n.toNat<l.length:=by omega
  rw[v'M (d:=d) hl]at h1
  cases h1
  exact⟨h,h2⟩
 ·rintro⟨h,h1⟩
  have hl:n.toNat<l.length:=by omega
  exact⟨h,_,by rw[v'M (d:=d) hl];rfl,trivial,h1⟩
theorem Zia {e eb:Nat} {ea full:Bool} {ez:List Value} {l:List Int} {k:IntKind} {n:Int} {K:D→Prop}:
  cIndexAddr (.slice e 1 eb ea ez) (.sl full 1 (iRs l)) (.is (.int k n)) K=((0≤n∧n<l.length)∧K (.pt [iD (l.getD n.toNat 0)])):=Zam (fun n=>[iD n]) 0
structure Gr (g:Cs):Prop where
 one:1≤g.st.length
 st0:g.st.getD 0 0=0
 stn:g.st.getD (g.st.length-1) 0=g.to.length
 ag:g.ag.length=g.to.length
 up: ∀i,i<g.st.length-1→g.st.getD i 0≤g.st.getD (i+1) 0
 to: ∀i,i<g.to.length→0≤g.to.getD i 0∧g.to.getD i 0<(g.st.length-1:Nat)∧0≤g.ag.getD i 0
theorem Gr.mono {g:Cs} (G:Gr g): ∀{d i:Nat},i+d≤g.st.length-1→g.st.getD i 0≤g.st.getD (i+d) 0
 |0,i,_=>Int.le_refl _
 |d+1,i,h=>Int.le_trans (G.mono (d:=d) (by omega)) (G.up (i+d) (by omega))
theorem z'8 {α:Type} {l:List α} {i:Nat} {d:α} (h:i<l.length):l.getD i d∈l:=z'E (v'M h)
theorem Ztj (k:Nat):((k:Int)+1).toNat=k+1:=by omega
abbrev e0:ByteArray:=⟨#[]⟩
abbrev ptB (b:Nat):D:= .is (.pointer (some ⟨b,0,none⟩))
structure Nod where
 op:Int
 n:Int
 nm:ByteArray
 inn:ByteArray
 pl:Int
def z'J:Nod:=⟨0,0,e0,e0,0⟩
def nodR (x:Nod):List D:=[iD x.op,iD x.n,sD x.nm,sD x.inn,iD x.pl]
def ZeE (l:List Nod):List (List D):=l.map nodR
abbrev y'4 (l:List Nod):D:= .sl false 5 (ZeE l)
structure Sm where
 kind:Int
 reg:ByteArray
 loc:ByteArray
 e:List Nod
 f:List Nod
 ne:Bool
 body:Int
 els:Int
 pl:Int
def sm0:Sm:=⟨0,e0,e0,[],[],false,0,0,0⟩
def smR (x:Sm):List D:=[iD x.kind,sD x.reg,sD x.loc,y'4 x.e,y'4 x.f,bD x.ne,iD x.body,iD x.els,iD x.pl]
def Zqh (l:List Sm):List (List D):=l.map smR
abbrev x'E (l:List Sm):D:= .sl false 9 (Zqh l)
def v'f (l:List ByteArray):List (List D):=l.map fun s=>[sD s]
abbrev x't (l:List ByteArray):D:= .sl false 1 (v'f l)
structure Td where
 nm:ByteArray
 regs:List ByteArray
 body:List Sm
 pl:Int
def td0:Td:=⟨e0,[],[],0⟩
def tdR (x:Td):List D:=[sD x.nm,x't x.regs,x'E x.body,iD x.pl]
def Zqp (l:List Td):List (List D):=l.map tdR
abbrev ZkW (l:List Td):D:= .sl false 4 (Zqp l)
structure Lv where
 nm:ByteArray
 n:Int
 pl:Int
def lv0:Lv:=⟨e0,0,0⟩
def lvR (x:Lv):List D:=[sD x.nm,iD x.n,iD x.pl]
def ZpL (l:List Lv):List (List D):=l.map lvR
abbrev Zic (l:List Lv):D:= .sl false 3 (ZpL l)
structure Cm where
 kind:Int
 e:List Nod
 pl:Int
def cm0:Cm:=⟨0,[],0⟩
def cmR (x:Cm):List D:=[iD x.kind,y'4 x.e,iD x.pl]
def Zo2 (l:List Cm):List (List D):=l.map cmR
abbrev Zmq (l:List Cm):D:= .sl false 3 (Zo2 l)
structure Pg where
 md:Int
 locs:List Lv
 ths:List Td
 cms:List Cm
abbrev pgC (p:Pg):List D:=[iD p.md,Zic p.locs,ZkW p.ths,Zmq p.cms]
theorem z'Z (l:List Nod):(ZeE l).length=l.length:=z'i ..
theorem x'C (l:List Sm):(Zqh l).length=l.length:=z'i ..
theorem x'h (l:List ByteArray):(v'f l).length=l.length:=z'i ..
theorem y'X (l:List Td):(Zqp l).length=l.length:=z'i ..
theorem x'B (l:List Lv):(ZpL l).length=l.length:=z'i ..
theorem v'b (l:List Cm):(Zo2 l).length=l.length:=z'i ..
section
variable {e eb : Nat} {ea full : Bool} {ez : List Value} {k : IntKind} {n : Int} {K : D → Prop}
theorem y's {l:List Nod}:cIndexAddr (.slice e 5 eb ea ez) (.sl full 5 (ZeE l)) (.is (.int k n)) K=((0≤n∧n<l.length)∧K (.pt (nodR (l.getD n.toNat z'J)))):=Zam nodR z'J
theorem y'M {l:List Sm}:cIndexAddr (.slice e 9 eb ea ez) (.sl full 9 (Zqh l)) (.is (.int k n)) K=((0≤n∧n<l.length)∧K (.pt (smR (l.getD n.toNat sm0)))):=Zam smR sm0
theorem w'4 {l:List ByteArray}:cIndexAddr (.slice e 1 eb ea ez) (.sl full 1 (v'f l)) (.is (.int k n)) K=((0≤n∧n<l.length)∧K (.pt [sD (l.getD n.toNat e0)])):=Zam (fun s=>[sD s]) e0
theorem w'V {l:List Td}:cIndexAddr (.slice e 4 eb ea ez) (.sl full 4 (Zqp l)) (.is (.int k n)) K=((0≤n∧n<l.length)∧K (.pt (tdR (l.getD n.toNat td0)))):=Zam tdR td0
theorem w'U {l:List Lv}:cIndexAddr (.slice e 3 eb ea ez) (.sl full 3 (ZpL l)) (.is (.int k n)) K=((0≤n∧n<l.length)∧K (.pt (lvR (l.getD n.toNat lv0)))):=Zam lvR lv0
theorem ZdO {l:List Cm}:cIndexAddr (.slice e 3 eb ea ez) (.sl full 3 (Zo2 l)) (.is (.int k n)) K=((0≤n∧n<l.length)∧K (.pt (cmR (l.getD n.toNat cm0)))):=Zam cmR cm0
theorem Zrm {l:List Opc}:cIndexAddr (.slice e 3 eb ea ez) (.sl full 3 (x'J l)) (.is (.int k n)) K=((0≤n∧n<l.length)∧K (.pt (opR (l.getD n.toNat (0,0,0))))):=Zam opR (0,0,0)
end
theorem ZhM {α:Type} {p:α→Bool} {l:List α} (d:α):l.all p=true↔ ∀i,i<l.length→p (l.getD i d)=true:=by
 rw[z'l]
 constructor
 ·exact fun h i hi=>h _ (z'8 hi)
 ·intro h x hx
  obtain⟨i,hi⟩:=y'u hx
  have h1:=h i (z'z.1 hi).1
  rwa [w'3 hi]at h1
theorem w'd {α:Type} {p:α→Bool} {l:List α} {d:α} {i:Nat} (hi:i<l.length) (h:p (l.getD i d)=false):l.all p=false:=by
 rw[w'A];exact⟨_,z'8 (d:=d) hi,by rw[h];exact Bool.false_ne_true⟩
theorem x'X {α:Type} {p:α→Bool} {l:List α} {d:α} {k:Nat} (hk:l.length≤k) (h: ∀i,i<k→p (l.getD i d)=true):l.all p=true:=(ZhM d).2 fun i hi=>h i (by omega)
theorem y'r {p:Nat→Prop} {k:Nat} (hs: ∀i,i<k→p i) (h:p k): ∀i,i<k+1→p i:=fun i hi=>by
 rcases z'g i k with h'|h'
 ·exact hs i h'
 ·obtain rfl:i=k:=by omega
  exact h
def w'K (op:Int):Option Nat:=if 1≤op∧op≤4 then some 0 else if op=5 then some 1 else if 6≤op∧op≤14 then some 2 else none
def x'T (op:Int):Int:=match w'K op with|none=> -1|some n=>n
def y'5:List Nod→Nat→Option Nat
 |[],_=>none
 |x::r,w=>match w'K x.op with
  |none=>none
  |some n=>if w-1+n=0 then some 1 else(y'5 r (w-1+n)).map (· +1)
def v'U (l:List Nod) (i:Int):Int:=if i<0 then-1 else match y'5 (l.drop i.toNat) 1 with|none=> -1|some k=>i+k
theorem w'2: ∀{l:List Nod} {w k:Nat},y'5 l w=some k→1≤k∧k≤l.length
 |[],_,_,h=>by cases h
 |x::r,w,k,h=>by
  unfold y'5 at h
  cases hk:w'K x.op with
  |none=>rw[hk]at h;cases h
  |some n=>
   rw[hk]at h
   simp only at h
   split at h
   ·cases h;exact⟨z'c _,by simp⟩
   ·obtain⟨j,hj,rfl⟩:=Option.map_eq_some_iff.1 h
    have:=w'2 hj
    exact⟨by omega,by simp;omega⟩
theorem Zc6 (x:Nod) (r:List Nod) (w:Nat):y'5 (x::r) w=match w'K x.op with|none=>none|some n=>if w-1+n=0 then some 1 else(y'5 r (w-1+n)).map (· +1):=rfl
theorem v'V: ∀{l:List Nod} {a b k:Nat},1≤a→1≤b→y'5 l (a+b)=some k→ ∃k1 k2,y'5 l a=some k1∧y'5 (l.drop k1) b=some k2∧k=k1+k2
 |[],_,_,_,_,_,h=>by cases h
 |x::r,a,b,k,ha,hb,h=>by
  rw[Zc6]at h
  cases hk:w'K x.op with
  |none=>rw[hk]at h;cases h
  |some n=>
   rw[hk]at h
   simp only at h
   rw[if_neg (by omega)]at h
   obtain⟨j,hj,rfl⟩:=Option.map_eq_some_iff.1 h
   by_cases h0:a-1+n=0
   ·rw[show a+b-1+n=b by omega]at hj
    exact⟨1,j,by rw[Zc6,hk];simp only;rw[if_pos h0],hj,by omega⟩
   ·rw[show a+b-1+n=(a-1+n)+b by omega]at hj
    obtain⟨k1,k2,h1,h2,rfl⟩:=v'V (by omega) hb hj
    exact⟨k1+1,k2,by rw[Zc6,hk];simp only;rw[if_neg h0,h1];rfl,h2,by omega⟩
theorem ZaR {α:Type} {l:List α} {i:Nat} (d:α) (h:i<l.length):l.drop i=l.getD i d::l.drop (i+1):=by
 rw[x'4 h,z'f,z'k h];rfl
theorem w'P {l:List Nod} {i k:Nat} (h:y'5 (l.drop i) 1=some k):i<l.length:=by
 have:=w'2 h
 rw[x'b]at this
 omega
theorem ZaS {l:List Nod} {i k:Nat} (h:y'5 (l.drop i) 1=some k): ∃n,w'K (l.getD i z'J).op=some n∧(n=0→k=1)∧(1≤n→y'5 (l.drop (i+1)) n=some (k-1))∧i+k≤l.length∧1≤k:=by
 have h0:=w'P h
 have h1:=w'2 h
 rw[x'b]at h1
 rw[ZaR z'J h0]at h
 unfold y'5 at h
 cases hk:w'K (l.getD i z'J).op with
 |none=>rw[hk]at h;cases h
 |some n=>
  rw[hk]at h
  simp only at h
  refine⟨n,rfl,fun e=>?_,fun e=>?_,by omega,by omega⟩
  ·subst e;rw[if_pos rfl]at h;cases h;rfl
  ·rw[if_neg (by omega)]at h
   obtain⟨j,hj,rfl⟩:=Option.map_eq_some_iff.1 h
   rw[show 1-1+n=n by omega]at hj
   rw[hj];rfl
def itN {α:Type} (g:α→α):Nat→α→α
 |0,a=>a
 |n+1,a=>g (itN g n a)
def w'v (g:Nat→Nat) (l:List Nod) (p:Nat×Nat):Nat×Nat:=(max p.1 (1+g p.2),p.2+(y'5 (l.drop p.2) 1).getD 0)
def x'G (l:List Nod):Nat→Nat→Nat
 |0,_=>0
 |f+1,i=>(itN (w'v (x'G l f) l) ((w'K (l.getD i z'J).op).getD 0) (0,i+1)).1
theorem Zkh {g:Nat→Nat} {l:List Nod} {m:Nat} (h: ∀i,g i≤m): ∀(n:Nat) (p:Nat×Nat),p.1≤m+1→(itN (w'v g l) n p).1≤m+1
 |0,_,hp=>hp
 |n+1,p,hp=>by
  have:=Zkh (l:=l) h n p hp
  have h2:=h (itN (w'v g l) n p).2
  simp only[itN,w'v]
  omega
theorem Zgm (l:List Nod): ∀(f i:Nat),x'G l f i≤f
 |0,_=>z'c _
 |f+1,i=>by
  unfold x'G
  exact Zkh (Zgm l f) _ _ (z'm _)
theorem Zn7 {g:Nat→Nat} {l:List Nod} {i k n:Nat} (h:y'5 (l.drop (i+1)) n=some k): ∀j,j≤n→(j<n→ ∃r,y'5 (l.drop (itN (w'v g l) j (0,i+1)).2) (n-j)=some r∧(itN (w'v g l) j (0,i+1)).2+r=i+1+k)∧i+1+j≤(itN (w'v g l) j (0,i+1)).2∧(j=n→(itN (w'v g l) j (0,i+1)).2=i+1+k∨n=0)
 |0,_=>⟨fun _=>⟨k,h,rfl⟩,z'c _,fun e=> .inr e.symm⟩
 |j+1,hj=>by
  obtain⟨h1,h2,_⟩:=Zn7 (g:=g) h j (by omega)
  obtain⟨r,h3,h4⟩:=h1 (by omega)
  have e:(itN (w'v g l) (j+1) (0,i+1)).2=(itN (w'v g l) j (0,i+1)).2+(y'5 (l.drop (itN (w'v g l) j (0,i+1)).2) 1).getD 0:=rfl
  rcases z'g (j+1) n with hlt|hge
  ·rw[show n-j=1+(n-(j+1)) by omega]at h3
   obtain⟨k1,k2,q1,q2,rfl⟩:=v'V (z'c _) (by omega) h3
   have:=w'2 q1
   rw[q1]at e
   rw[y'6]at q2
   refine⟨fun _=>⟨k2,?_,?_⟩,?_,fun e=>by omega⟩
   ·rw[e];exact q2
   ·rw[e];simp only[z'B];omega
   ·rw[e];simp only[z'B];omega
  ·obtain rfl:n=j+1:=by omega
   rw[show j+1-j=1 by omega]at h3
   rw[h3]at e
   have:=w'2 h3
   refine⟨fun q=>absurd q (Nat.lt_irrefl _),?_,fun _=> .inl ?_⟩
   ·rw[e];simp only[z'B];omega
   ·rw[e];simp only[z'B];omega
def Zce (x:Sm) (n:Int):Bool:=decide (x.body<0)||(decide (x.els<0)||(decide (x.body>n)||decide (x.els>n-x.body)))
def mdS (x:Sm) (a:Nat):Nat:=a+1+x.body.toNat
def eeS (x:Sm) (a:Nat):Nat:=a+1+x.body.toNat+x.els.toNat
def whF (l:List Sm):Nat→Nat→Nat→Bool
 |0,a,b=>decide (b≤a)
 |f+1,a,b=>decide (b≤a)||(!Zce (l.getD a sm0) ((b:Int)-a-1)&&(whF l f (a+1) (mdS (l.getD a sm0) a)&&(whF l f (mdS (l.getD a sm0) a) (eeS (l.getD a sm0) a)&&whF l f (eeS (l.getD a sm0) a) b)))
theorem Zft {x:Sm} {n:Int} (h:Zce x n=false):0≤x.body∧0≤x.els∧x.body+x.els≤n:=by
 simp only[Zce,Bool.or_eq_false_iff,decide_eq_false_iff_not]at h
 omega
theorem ZaO (l:List Sm): ∀(f g a b:Nat),b-a≤f→b-a≤g→whF l f a b=whF l g a b
 |0,0,_,_,_,_=>rfl
 |0,g+1,a,b,h1,_=>by
  have:b≤a:=by omega
  simp[whF,this]
 |f+1,0,a,b,_,h2=>by
  have:b≤a:=by omega
  simp[whF,this]
 |f+1,g+1,a,b,h1,h2=>by
  unfold whF
  by_cases hb:b≤a
  ·simp[hb]
  cases hq:Zce (l.getD a sm0) ((b:Int)-a-1)with
  |true=>rfl
  |false=>
   have:=Zft hq
   have e1:mdS (l.getD a sm0) a=a+1+(l.getD a sm0).body.toNat:=rfl
   have e2:eeS (l.getD a sm0) a=a+1+(l.getD a sm0).body.toNat+(l.getD a sm0).els.toNat:=rfl
   rw[ZaO l f g (a+1) _ (by omega) (by omega),ZaO l f g (mdS (l.getD a sm0) a) _ (by omega) (by omega),ZaO l f g (eeS (l.getD a sm0) a) b (by omega) (by omega)]
def wh (l:List Sm) (a b:Nat):Bool:=whF l (b-a) a b
theorem ZoT {l:List Sm} {a b:Nat} (h:b≤a):wh l a b=true:=by
 unfold wh
 rw[show b-a=0 by omega];simp[whF,h]
theorem Zk2 {l:List Sm} {a b:Nat} (h:a<b) (hq:Zce (l.getD a sm0) ((b:Int)-a-1)=true):wh l a b=false:=by
 unfold wh
 rw[show b-a=(b-a-1)+1 by omega,whF,hq]
 have: ¬b≤a:=by omega
 simp[this]
theorem Znp {l:List Sm} {a b:Nat} (h:a<b) (hq:Zce (l.getD a sm0) ((b:Int)-a-1)=false):
  wh l a b=(wh l (a+1) (mdS (l.getD a sm0) a)&&(wh l (mdS (l.getD a sm0) a) (eeS (l.getD a sm0) a)&&wh l (eeS (l.getD a sm0) a) b)):=by
 have:=Zft hq
 have e1:mdS (l.getD a sm0) a=a+1+(l.getD a sm0).body.toNat:=rfl
 have e2:eeS (l.getD a sm0) a=a+1+(l.getD a sm0).body.toNat+(l.getD a sm0).els.toNat:=rfl
 unfold wh
 rw[show whF l (b-a) a b=whF l ((b-a-1)+1) a b from ZaO l _ _ a b (by omega) (by omega)]
 rw[whF,hq]
 have: ¬b≤a:=by omega
 rw[decide_eq_false this,Bool.false_or,z'P,y'g]
 rw[ZaO l (b-a-1) _ (a+1) (mdS (l.getD a sm0) a) (by omega) (z'c _),ZaO l (b-a-1) _ (mdS (l.getD a sm0) a) (eeS (l.getD a sm0) a) (by omega) (z'c _),ZaO l (b-a-1) _ (eeS (l.getD a sm0) a) b (by omega) (z'c _)]
theorem v'l {l:List Sm} {a b:Nat} (h:a<b) (hw:wh l a b=true):(0≤(l.getD a sm0).body∧0≤(l.getD a sm0).els∧(a:Int)+1+(l.getD a sm0).body+(l.getD a sm0).els≤b)∧wh l (a+1) (mdS (l.getD a sm0) a)=true∧wh l (mdS (l.getD a sm0) a) (eeS (l.getD a sm0) a)=true∧wh l (eeS (l.getD a sm0) a) b=true:=by
 cases hq:Zce (l.getD a sm0) ((b:Int)-a-1)with
 |true=>rw[Zk2 h hq]at hw;cases hw
 |false=>
  have h1:=Zft hq
  rw[Znp h hq]at hw
  simp only[z'd]at hw
  exact⟨by omega,hw⟩
def Zfq (l:List Sm):Nat→Nat→Nat→List Nat
 |0,_,_=>[]
 |f+1,a,b=>if b≤a then[]else a::Zfq l f (eeS (l.getD a sm0) a) b
theorem ZgU (x:Sm) (a:Nat):a<eeS x a:=by unfold eeS;omega
theorem Zfr (l:List Sm): ∀(f g a b:Nat),b-a≤f→b-a≤g→Zfq l f a b=Zfq l g a b
 |0,0,_,_,_,_=>rfl
 |0,g+1,a,b,h1,_=>by simp[Zfq,show b≤a by omega]
 |f+1,0,a,b,_,h2=>by simp[Zfq,show b≤a by omega]
 |f+1,g+1,a,b,h1,h2=>by
  have:=ZgU (l.getD a sm0) a
  unfold Zfq
  by_cases hb:b≤a
  ·rw[if_pos hb,if_pos hb]
  ·rw[if_neg hb,if_neg hb,Zfr l f g (eeS (l.getD a sm0) a) b (by omega) (by omega)]
def tp (l:List Sm) (a b:Nat):List Nat:=Zfq l (b-a) a b
theorem Zcc {l:List Sm} {a b:Nat} (h:b≤a):tp l a b=[]:=by unfold tp;rw[show b-a=0 by omega];rfl
theorem ZfU {l:List Sm} {a b:Nat} (h:a<b):tp l a b=a::tp l (eeS (l.getD a sm0) a) b:=by
 have:=ZgU (l.getD a sm0) a
 unfold tp
 rw[Zfr l (b-a) ((b-a-1)+1) a b (by omega) (by omega),Zfq,if_neg (by omega)]
 rw[Zfr l (b-a-1) (b-eeS (l.getD a sm0) a) _ b (by omega) (z'c _)]
theorem ZoO (l:List Sm): ∀(n a b:Nat),b-a≤n→(tp l a b).length≤b-a
 |0,a,b,h=>by rw[Zcc (by omega)];exact z'm _
 |n+1,a,b,h=>by
  rcases z'g a b with hl|hl
  ·have:=ZgU (l.getD a sm0) a
   have:=ZoO l n (eeS (l.getD a sm0) a) b (by omega)
   rw[ZfU hl,z'q];omega
  ·rw[Zcc hl];exact z'm _
theorem ZoN (l:List Sm): ∀(n a b:Nat),b-a≤n→wh l a b=true→ ∀t,t∈tp l a b→a≤t∧0≤(l.getD t sm0).body∧0≤(l.getD t sm0).els∧(t:Int)+1+(l.getD t sm0).body+(l.getD t sm0).els≤b∧wh l (t+1) (mdS (l.getD t sm0) t)=true∧wh l (mdS (l.getD t sm0) t) (eeS (l.getD t sm0) t)=true
 |0,a,b,h,_,t,ht=>by rw[Zcc (by omega)]at ht;cases ht
 |n+1,a,b,h,hw,t,ht=>by
  rcases z'g a b with hl|hl
  ·have h0:=ZgU (l.getD a sm0) a
   obtain⟨h1,h2,h3,h4⟩:=v'l hl hw
   rw[ZfU hl]at ht
   rcases z'v.1 ht with rfl|ht
   ·exact⟨z'c _,h1.1,h1.2.1,h1.2.2,h2,h3⟩
   ·obtain⟨q1,q2⟩:=ZoN l n (eeS (l.getD a sm0) a) b (by omega) h4 t ht
    exact⟨by omega,q2⟩
  ·rw[Zcc hl]at ht;cases ht
def Zah (k:Int):Bool:=decide (k=10)||(decide (k=11)||decide (k=12))
def sdK (g:Nat→Nat→Nat) (l:List Sm) (n t:Nat):Nat:=match Zah (l.getD t sm0).kind with
 |true=>max n (max (1+g (t+1) (mdS (l.getD t sm0) t)) (1+g (mdS (l.getD t sm0) t) (eeS (l.getD t sm0) t)))
 |false=>n
def sdF (l:List Sm):Nat→Nat→Nat→Nat
 |0,_,_=>0
 |f+1,a,b=>(tp l a b).foldl (sdK (sdF l f) l) 0
theorem ZhC {g:Nat→Nat→Nat} {m:Nat} (h: ∀a b,g a b≤m) (l:List Sm): ∀(ts:List Nat) (n:Nat),n≤m+1→ts.foldl (sdK g l) n≤m+1
 |[],n,hn=>hn
 |t::ts,n,hn=>by
  rw[List.foldl_cons]
  refine ZhC h l ts _ ?_
  unfold sdK
  have h1:=h (t+1) (mdS (l.getD t sm0) t)
  have h2:=h (mdS (l.getD t sm0) t) (eeS (l.getD t sm0) t)
  split<;>omega
theorem ZcU (l:List Sm): ∀(f a b:Nat),sdF l f a b≤f
 |0,_,_=>z'c _
 |f+1,a,b=>ZhC (ZcU l f) l _ _ (z'm _)
def y'A (n:Nat) (g:Nat→Int×Int):Int×Int:=(((List.range n).map g).find? fun e=> !decide (e.1=0)).getD (0,0)
theorem Zbz {n k:Nat} {g:Nat→Int×Int} (hk:k<n) (h: ∀i,i<k→(g i).1=0) (hg:(g k).1≠0):y'A n g=g k:=by
 unfold y'A
 have e:((List.range n).map g).find? (fun e=> !decide (e.1=0))=some (g k):=by
  rw[List.find?_eq_some_iff_getElem]
  refine⟨by simp[hg],k,by simpa using hk,by simp,fun j hj=>?_⟩
  simp[h j hj]
 rw[e];rfl
theorem ZaU {n:Nat} {g:Nat→Int×Int} (h: ∀i,i<n→(g i).1=0):y'A n g=(0,0):=by
 unfold y'A
 have e:((List.range n).map g).find? (fun e=> !decide (e.1=0))=none:=by
  rw[List.find?_eq_none]
  intro x hx
  obtain⟨i,hi,rfl⟩:=z'w.1 hx
  simp[h i (z'Q.1 hi)]
 rw[e];rfl
theorem ZaV {n:Nat} {g:Nat→Int×Int} (h:(y'A n g).1=0): ∀i,i<n→(g i).1=0:=by
 intro i hi
 unfold y'A at h
 cases hf:((List.range n).map g).find? (fun e=> !decide (e.1=0))with
 |none=>
  rw[List.find?_eq_none]at hf
  have:=hf (g i) (z'w.2 ⟨i,z'Q.2 hi,rfl⟩)
  simpa using this
 |some x=>
  have:=List.find?_some hf
  rw[hf]at h
  simp at this
  exact absurd h this
def ixF (l:List ByteArray) (s:ByteArray):Int:=match l.findIdx? (fun x=>decide (x=s))with|none=> -1|some i=>i
theorem ZlK {l:List ByteArray} {s:ByteArray} {k:Nat} (hk:k<l.length) (h: ∀i,i<k→l.getD i e0≠s) (hg:l.getD k e0=s):ixF l s=k:=by
 unfold ixF
 have e:l.findIdx? (fun x=>decide (x=s))=some k:=by
  rw[List.findIdx?_eq_some_iff_getElem]
  have hv:=fun i (hi:i<l.length)=>(w'3 (d:=e0) (z'k hi)).symm
  refine⟨hk,by rw[hv k hk];exact decide_eq_true hg,fun j hj=>?_⟩
  rw[hv j (by omega)]
  simpa using h j hj
 rw[e]
theorem Zn8 {l:List ByteArray} {s:ByteArray} (h: ∀i,i<l.length→l.getD i e0≠s):ixF l s= -1:=by
 unfold ixF
 have e:l.findIdx? (fun x=>decide (x=s))=none:=by
  rw[List.findIdx?_eq_none_iff]
  intro x hx
  obtain⟨i,hi⟩:=y'u hx
  have:=h i (z'z.1 hi).1
  rw[w'3 hi]at this
  exact decide_eq_false this
 rw[e]
theorem Zhh (l:List ByteArray) (s:ByteArray): -1≤ixF l s∧ixF l s<l.length:=by
 unfold ixF
 split
 ·omega
 ·rename_i i hi
  rw[List.findIdx?_eq_some_iff_getElem]at hi
  obtain⟨h,_⟩:=hi
  omega
end Go.Proofs.YthlkpnjjkgmlkaaGreat
