/- Graphs, node by node, in plain Lean. No condition. -/
import Derived.Test.YthlkpnjjkgmlkaaGreatBa
import Derived.Test.YthlkpnjjkgmlkaaGreatXa
import Derived.Test.YthlkpnjjkgmlkaaGreatYd
import Derived.Test.YthlkpnjjkgmlkaaGreatYi
import Derived.Test.YthlkpnjjkgmlkaaGreatXe
namespace Go.Proofs.YthlkpnjjkgmlkaaGreat
set_option linter.unusedSimpArgs false
set_option linter.unusedVariables false
open Go Go.Proofs Go.Vc
attribute [local irreducible] x'v VCg VCw VCx
abbrev Ed:=Int×Int×Int
def Zgg (l:List Ed) (i:Nat):List Ed:=l.filter fun e=>e.1 == (i:Int)
def upE (l:List Ed) (i:Nat):List Ed:=(List.range i).flatMap (Zgg l)
theorem ZrQ (l:List Ed):upE l 0=[]:=rfl
theorem ZhP (l:List Ed) (i:Nat):upE l (i+1)=upE l i++Zgg l i:=by
 unfold upE;rw[y'p,List.flatMap_append];simp
structure Cs where
 st:List Int
 ag:List Int
 to:List Int
def ZkM (n:Nat) (l:List Ed):Cs:=⟨(List.range (n+1)).map fun i=>((upE l i).length:Int),(upE l n).map (·.2.1),(upE l n).map (·.2.2)⟩
def ZnT (n:Nat) (l:List Ed):Bool:=l.all fun e=>decide (0≤e.1)&&decide (e.1<n)&&(decide (0≤e.2.2)&&decide (e.2.2<n))&&decide (0≤e.2.1)
set_option maxRecDepth 20000
theorem Zae {α:Type} {l:List α} {i:Nat} {d:α} (h:i<l.length):l[i]?=some (l.getD i d):=by
 rw[z'g,z'c h];rfl
theorem Zba {α:Type} {l:List α} {i:Nat} {x d:α} (h:l[i]?=some x):l.getD i d=x:=by rw[z'g,h];rfl
theorem ZaX {α:Type} (f:α→List D) (d:α) {e esz eb:Nat} {ea full:Bool} {ez:List Value} {l:List α} {k:IntKind} {n:Int} {K:D→Prop}:
  cIndexAddr (.slice e esz eb ea ez) (.sl full esz (l.map f)) (.is (.int k n)) K=((0≤n∧n<l.length)∧K (.pt (f (l.getD n.toNat d)))):=by
 simp only[cIndexAddr,z'm,y'c,eq_iff_iff]
 constructor
 ·rintro⟨h,r,h1,_,h2⟩
  have hl:n.toNat<l.length:=by omega
  rw[Zae (d:=d) hl]at h1
  cases h1
  exact⟨h,h2⟩
 ·rintro⟨h,h1⟩
  have hl:n.toNat<l.length:=by omega
  exact⟨h,_,by rw[Zae (d:=d) hl];rfl,trivial,h1⟩
theorem x'F {e eb:Nat} {ea full:Bool} {ez:List Value} {l:List Int} {k:IntKind} {n:Int} {K:D→Prop}:
  cIndexAddr (.slice e 1 eb ea ez) (.sl full 1 (iRs l)) (.is (.int k n)) K=((0≤n∧n<l.length)∧K (.pt [iD (l.getD n.toNat 0)])):=ZaX (fun n=>[iD n]) 0
def edR (x:Ed):List D:=[iD x.1,iD x.2.1,iD x.2.2]
def Zc0 (l:List Ed):List (List D):=l.map edR
abbrev ZkW (l:List Ed):D:= .sl false 3 (Zc0 l)
theorem Zdu (l:List Ed):(Zc0 l).length=l.length:=z'm ..
theorem Zf7 {e eb:Nat} {ea full:Bool} {ez:List Value} {l:List Ed} {k:IntKind} {n:Int} {K:D→Prop}:
  cIndexAddr (.slice e 3 eb ea ez) (.sl full 3 (Zc0 l)) (.is (.int k n)) K=((0≤n∧n<l.length)∧K (.pt (edR (l.getD n.toNat (0,0,0))))):=ZaX edR (0,0,0)
abbrev csC (g:Cs):List D:=[y'r g.st,y'r g.ag,y'r g.to]
structure Gr (g:Cs):Prop where
 one:1≤g.st.length
 st0:g.st.getD 0 0=0
 stn:g.st.getD (g.st.length-1) 0=g.to.length
 ag:g.ag.length=g.to.length
 up: ∀i,i<g.st.length-1→g.st.getD i 0≤g.st.getD (i+1) 0
 to: ∀i,i<g.to.length→0≤g.to.getD i 0∧g.to.getD i 0<(g.st.length-1:Nat)∧0≤g.ag.getD i 0
theorem ZmR (l:List Ed):(Zc0 l).flatten.length=l.length*3:=by
 induction l with
 |nil=>rfl
 |cons c l ih=>simp only[Zc0,z's,y'f,z'j,z'r]at ih⊢;rw[ih];simp only[edR,z'r,z'N];omega
theorem ZkU (l:List Ed) (x:Ed):(Zc0 (l++[x])).flatten=(Zc0 l).flatten++edR x:=by simp[Zc0]
theorem Zqr (l:List Ed): ∀r,r∈Zc0 l→r.length=3:=by
 intro r hr
 obtain⟨x,_,rfl⟩:=z'D.1 hr
 rfl
theorem Gr.mono {g:Cs} (G:Gr g): ∀{d i:Nat},i+d≤g.st.length-1→g.st.getD i 0≤g.st.getD (i+d) 0
 |0,i,_=>Int.le_refl _
 |d+1,i,h=>Int.le_trans (G.mono (d:=d) (by omega)) (G.up (i+d) (by omega))
theorem Zhs {α:Type} {a b:List α} {d:α} (hl:a.length=b.length) (h: ∀i,i<a.length→a.getD i d=b.getD i d):a=b:=by
 apply w'M
 intro i
 rcases z'i i a.length with hi|hi
 ·rw[Zae (d:=d) hi,Zae (d:=d) (by omega),h i hi]
 ·rw[z'M hi,z'M (by omega)]
theorem x'p {α:Type} {l:List α} {i:Nat} {d:α} (h:i<l.length):l.getD i d∈l:=z'l (Zae h)
theorem ZuW (k:Nat):((k:Int)+1).toNat=k+1:=by omega
abbrev e0:ByteArray:=⟨#[]⟩
abbrev ptB (b:Nat):D:= .is (.pointer (some ⟨b,0,none⟩))
structure Nod where
 op:Int
 n:Int
 nm:ByteArray
 inn:ByteArray
 pl:Int
def y'e:Nod:=⟨0,0,e0,e0,0⟩
def nodR (x:Nod):List D:=[iD x.op,iD x.n,sD x.nm,sD x.inn,iD x.pl]
def ZhI (l:List Nod):List (List D):=l.map nodR
abbrev w'5 (l:List Nod):D:= .sl false 5 (ZhI l)
structure Sm where
 kind:Int
 reg:ByteArray
 loc:ByteArray
 e:List Nod
 f:List Nod
 ne:Bool
 body:Int
 els:Int
 pl:Int
def sm0:Sm:=⟨0,e0,e0,[],[],false,0,0,0⟩
def smR (x:Sm):List D:=[iD x.kind,sD x.reg,sD x.loc,w'5 x.e,w'5 x.f,bD x.ne,iD x.body,iD x.els,iD x.pl]
def ZrH (l:List Sm):List (List D):=l.map smR
abbrev v'I (l:List Sm):D:= .sl false 9 (ZrH l)
def Zcx (l:List ByteArray):List (List D):=l.map fun s=>[sD s]
abbrev v't (l:List ByteArray):D:= .sl false 1 (Zcx l)
structure Td where
 nm:ByteArray
 regs:List ByteArray
 body:List Sm
 pl:Int
def td0:Td:=⟨e0,[],[],0⟩
def tdR (x:Td):List D:=[sD x.nm,v't x.regs,v'I x.body,iD x.pl]
def ZrN (l:List Td):List (List D):=l.map tdR
abbrev ZuU (l:List Td):D:= .sl false 4 (ZrN l)
structure Lv where
 nm:ByteArray
 n:Int
 pl:Int
def lv0:Lv:=⟨e0,0,0⟩
def lvR (x:Lv):List D:=[sD x.nm,iD x.n,iD x.pl]
def Zq1 (l:List Lv):List (List D):=l.map lvR
abbrev Zt9 (l:List Lv):D:= .sl false 3 (Zq1 l)
structure Cm where
 kind:Int
 e:List Nod
 pl:Int
def cm0:Cm:=⟨0,[],0⟩
def cmR (x:Cm):List D:=[iD x.kind,w'5 x.e,iD x.pl]
def Zqj (l:List Cm):List (List D):=l.map cmR
abbrev ZtR (l:List Cm):D:= .sl false 3 (Zqj l)
structure Pg where
 md:Int
 locs:List Lv
 ths:List Td
 cms:List Cm
abbrev pgC (p:Pg):List D:=[iD p.md,Zt9 p.locs,ZuU p.ths,ZtR p.cms]
theorem y'K (l:List Nod):(ZhI l).length=l.length:=z'm ..
theorem v's (l:List Sm):(ZrH l).length=l.length:=z'm ..
theorem w'W (l:List ByteArray):(Zcx l).length=l.length:=z'm ..
theorem w'D (l:List Td):(ZrN l).length=l.length:=z'm ..
theorem v'o (l:List Lv):(Zq1 l).length=l.length:=z'm ..
theorem Zbw (l:List Cm):(Zqj l).length=l.length:=z'm ..
section
variable {e eb : Nat} {ea full : Bool} {ez : List Value} {k : IntKind} {n : Int} {K : D → Prop}
theorem w'R {l:List Nod}:cIndexAddr (.slice e 5 eb ea ez) (.sl full 5 (ZhI l)) (.is (.int k n)) K=((0≤n∧n<l.length)∧K (.pt (nodR (l.getD n.toNat y'e)))):=ZaX nodR y'e
theorem x'T {l:List Sm}:cIndexAddr (.slice e 9 eb ea ez) (.sl full 9 (ZrH l)) (.is (.int k n)) K=((0≤n∧n<l.length)∧K (.pt (smR (l.getD n.toNat sm0)))):=ZaX smR sm0
theorem ZeK {l:List ByteArray}:cIndexAddr (.slice e 1 eb ea ez) (.sl full 1 (Zcx l)) (.is (.int k n)) K=((0≤n∧n<l.length)∧K (.pt [sD (l.getD n.toNat e0)])):=ZaX (fun s=>[sD s]) e0
theorem ZcT {l:List Td}:cIndexAddr (.slice e 4 eb ea ez) (.sl full 4 (ZrN l)) (.is (.int k n)) K=((0≤n∧n<l.length)∧K (.pt (tdR (l.getD n.toNat td0)))):=ZaX tdR td0
theorem ZeJ {l:List Lv}:cIndexAddr (.slice e 3 eb ea ez) (.sl full 3 (Zq1 l)) (.is (.int k n)) K=((0≤n∧n<l.length)∧K (.pt (lvR (l.getD n.toNat lv0)))):=ZaX lvR lv0
theorem Zim {l:List Cm}:cIndexAddr (.slice e 3 eb ea ez) (.sl full 3 (Zqj l)) (.is (.int k n)) K=((0≤n∧n<l.length)∧K (.pt (cmR (l.getD n.toNat cm0)))):=ZaX cmR cm0
end
theorem ZmJ {α:Type} {p:α→Bool} {l:List α} (d:α):l.all p=true↔ ∀i,i<l.length→p (l.getD i d)=true:=by
 rw[z'q]
 constructor
 ·exact fun h i hi=>h _ (x'p hi)
 ·intro h x hx
  obtain⟨i,hi⟩:=y'k hx
  have h1:=h i (z'b.1 hi).1
  rwa [Zba hi]at h1
theorem v'D {α:Type} {p:α→Bool} {l:List α} {d:α} {i:Nat} (hi:i<l.length) (h:p (l.getD i d)=false):l.all p=false:=by
 rw[v'i];exact⟨_,x'p (d:=d) hi,by rw[h];exact Bool.false_ne_true⟩
theorem w'3 {α:Type} {p:α→Bool} {l:List α} {d:α} {k:Nat} (hk:l.length≤k) (h: ∀i,i<k→p (l.getD i d)=true):l.all p=true:=(ZmJ d).2 fun i hi=>h i (by omega)
theorem y's {p:Nat→Prop} {k:Nat} (hs: ∀i,i<k→p i) (h:p k): ∀i,i<k+1→p i:=fun i hi=>by
 rcases z'i i k with h'|h'
 ·exact hs i h'
 ·obtain rfl:i=k:=by omega
  exact h
def Zau (op:Int):Option Nat:=if 1≤op∧op≤4 then some 0 else if op=5 then some 1 else if 6≤op∧op≤14 then some 2 else none
def ZaY (op:Int):Int:=match Zau op with|none=> -1|some n=>n
def w'B:List Nod→Nat→Option Nat
 |[],_=>none
 |x::r,w=>match Zau x.op with
  |none=>none
  |some n=>if w-1+n=0 then some 1 else(w'B r (w-1+n)).map (· +1)
def Zek (l:List Nod) (i:Int):Int:=if i<0 then-1 else match w'B (l.drop i.toNat) 1 with|none=> -1|some k=>i+k
theorem ZbJ: ∀{l:List Nod} {w k:Nat},w'B l w=some k→1≤k∧k≤l.length
 |[],_,_,h=>by cases h
 |x::r,w,k,h=>by
  unfold w'B at h
  cases hk:Zau x.op with
  |none=>rw[hk]at h;cases h
  |some n=>
   rw[hk]at h
   simp only at h
   split at h
   ·cases h;exact⟨z'h _,by simp⟩
   ·obtain⟨j,hj,rfl⟩:=Option.map_eq_some_iff.1 h
    have:=ZbJ hj
    exact⟨by omega,by simp;omega⟩
theorem ZfL (x:Nod) (r:List Nod) (w:Nat):w'B (x::r) w=match Zau x.op with|none=>none|some n=>if w-1+n=0 then some 1 else(w'B r (w-1+n)).map (· +1):=rfl
theorem Zdv: ∀{l:List Nod} {a b k:Nat},1≤a→1≤b→w'B l (a+b)=some k→ ∃k1 k2,w'B l a=some k1∧w'B (l.drop k1) b=some k2∧k=k1+k2
 |[],_,_,_,_,_,h=>by cases h
 |x::r,a,b,k,ha,hb,h=>by
  rw[ZfL]at h
  cases hk:Zau x.op with
  |none=>rw[hk]at h;cases h
  |some n=>
   rw[hk]at h
   simp only at h
   rw[if_neg (by omega)]at h
   obtain⟨j,hj,rfl⟩:=Option.map_eq_some_iff.1 h
   by_cases h0:a-1+n=0
   ·rw[show a+b-1+n=b by omega]at hj
    exact⟨1,j,by rw[ZfL,hk];simp only;rw[if_pos h0],hj,by omega⟩
   ·rw[show a+b-1+n=(a-1+n)+b by omega]at hj
    obtain⟨k1,k2,h1,h2,rfl⟩:=Zdv (by omega) hb hj
    exact⟨k1+1,k2,by rw[ZfL,hk];simp only;rw[if_neg h0,h1];rfl,h2,by omega⟩
theorem ZdZ {α:Type} {l:List α} {i:Nat} (d:α) (h:i<l.length):l.drop i=l.getD i d::l.drop (i+1):=by
 rw[x'x h,z'g,z'c h];rfl
theorem Zcl {l:List Nod} {i k:Nat} (h:w'B (l.drop i) 1=some k):i<l.length:=by
 have:=ZbJ h
 rw[x'h]at this
 omega
theorem ZfM {l:List Nod} {i k:Nat} (h:w'B (l.drop i) 1=some k): ∃n,Zau (l.getD i y'e).op=some n∧(n=0→k=1)∧(1≤n→w'B (l.drop (i+1)) n=some (k-1))∧i+k≤l.length∧1≤k:=by
 have h0:=Zcl h
 have h1:=ZbJ h
 rw[x'h]at h1
 rw[ZdZ y'e h0]at h
 unfold w'B at h
 cases hk:Zau (l.getD i y'e).op with
 |none=>rw[hk]at h;cases h
 |some n=>
  rw[hk]at h
  simp only at h
  refine⟨n,rfl,fun e=>?_,fun e=>?_,by omega,by omega⟩
  ·subst e;rw[if_pos rfl]at h;cases h;rfl
  ·rw[if_neg (by omega)]at h
   obtain⟨j,hj,rfl⟩:=Option.map_eq_some_iff.1 h
   rw[show 1-1+n=n by omega]at hj
   rw[hj];rfl
def itN {α:Type} (g:α→α):Nat→α→α
 |0,a=>a
 |n+1,a=>g (itN g n a)
def v'x (g:Nat→Nat) (l:List Nod) (p:Nat×Nat):Nat×Nat:=(max p.1 (1+g p.2),p.2+(w'B (l.drop p.2) 1).getD 0)
def w'u (l:List Nod):Nat→Nat→Nat
 |0,_=>0
 |f+1,i=>(itN (v'x (w'u l f) l) ((Zau (l.getD i y'e).op).getD 0) (0,i+1)).1
theorem Zlz {g:Nat→Nat} {l:List Nod} {m:Nat} (h: ∀i,g i≤m): ∀(n:Nat) (p:Nat×Nat),p.1≤m+1→(itN (v'x g l) n p).1≤m+1
 |0,_,hp=>hp
 |n+1,p,hp=>by
  have:=Zlz (l:=l) h n p hp
  have h2:=h (itN (v'x g l) n p).2
  simp only[itN,v'x]
  omega
theorem Zhq (l:List Nod): ∀(f i:Nat),w'u l f i≤f
 |0,_=>z'h _
 |f+1,i=>by
  unfold w'u
  exact Zlz (Zhq l f) _ _ (z'A _)
theorem Zpu {g:Nat→Nat} {l:List Nod} {i k n:Nat} (h:w'B (l.drop (i+1)) n=some k): ∀j,j≤n→(j<n→ ∃r,w'B (l.drop (itN (v'x g l) j (0,i+1)).2) (n-j)=some r∧(itN (v'x g l) j (0,i+1)).2+r=i+1+k)∧i+1+j≤(itN (v'x g l) j (0,i+1)).2∧(j=n→(itN (v'x g l) j (0,i+1)).2=i+1+k∨n=0)
 |0,_=>⟨fun _=>⟨k,h,rfl⟩,z'h _,fun e=> .inr e.symm⟩
 |j+1,hj=>by
  obtain⟨h1,h2,_⟩:=Zpu (g:=g) h j (by omega)
  obtain⟨r,h3,h4⟩:=h1 (by omega)
  have e:(itN (v'x g l) (j+1) (0,i+1)).2=(itN (v'x g l) j (0,i+1)).2+(w'B (l.drop (itN (v'x g l) j (0,i+1)).2) 1).getD 0:=rfl
  rcases z'i (j+1) n with hlt|hge
  ·rw[show n-j=1+(n-(j+1)) by omega]at h3
   obtain⟨k1,k2,q1,q2,rfl⟩:=Zdv (z'h _) (by omega) h3
   have:=ZbJ q1
   rw[q1]at e
   rw[w'k]at q2
   refine⟨fun _=>⟨k2,?_,?_⟩,?_,fun e=>by omega⟩
   ·rw[e];exact q2
   ·rw[e];simp only[z'y];omega
   ·rw[e];simp only[z'y];omega
  ·obtain rfl:n=j+1:=by omega
   rw[show j+1-j=1 by omega]at h3
   rw[h3]at e
   have:=ZbJ h3
   refine⟨fun q=>absurd q (Nat.lt_irrefl _),?_,fun _=> .inl ?_⟩
   ·rw[e];simp only[z'y];omega
   ·rw[e];simp only[z'y];omega
def ZeZ (x:Sm) (n:Int):Bool:=decide (x.body<0)||(decide (x.els<0)||(decide (x.body>n)||decide (x.els>n-x.body)))
def mdS (x:Sm) (a:Nat):Nat:=a+1+x.body.toNat
def eeS (x:Sm) (a:Nat):Nat:=a+1+x.body.toNat+x.els.toNat
def whF (l:List Sm):Nat→Nat→Nat→Bool
 |0,a,b=>decide (b≤a)
 |f+1,a,b=>decide (b≤a)||(!ZeZ (l.getD a sm0) ((b:Int)-a-1)&&(whF l f (a+1) (mdS (l.getD a sm0) a)&&(whF l f (mdS (l.getD a sm0) a) (eeS (l.getD a sm0) a)&&whF l f (eeS (l.getD a sm0) a) b)))
theorem Zgv {x:Sm} {n:Int} (h:ZeZ x n=false):0≤x.body∧0≤x.els∧x.body+x.els≤n:=by
 simp only[ZeZ,Bool.or_eq_false_iff,decide_eq_false_iff_not]at h
 omega
theorem ZbI (l:List Sm): ∀(f g a b:Nat),b-a≤f→b-a≤g→whF l f a b=whF l g a b
 |0,0,_,_,_,_=>rfl
 |0,g+1,a,b,h1,_=>by
  have:b≤a:=by omega
  simp[whF,this]
 |f+1,0,a,b,_,h2=>by
  have:b≤a:=by omega
  simp[whF,this]
 |f+1,g+1,a,b,h1,h2=>by
  unfold whF
  by_cases hb:b≤a
  ·simp[hb]
  cases hq:ZeZ (l.getD a sm0) ((b:Int)-a-1)with
  |true=>rfl
  |false=>
   have:=Zgv hq
   have e1:mdS (l.getD a sm0) a=a+1+(l.getD a sm0).body.toNat:=rfl
   have e2:eeS (l.getD a sm0) a=a+1+(l.getD a sm0).body.toNat+(l.getD a sm0).els.toNat:=rfl
   rw[ZbI l f g (a+1) _ (by omega) (by omega),ZbI l f g (mdS (l.getD a sm0) a) _ (by omega) (by omega),ZbI l f g (eeS (l.getD a sm0) a) b (by omega) (by omega)]
def wh (l:List Sm) (a b:Nat):Bool:=whF l (b-a) a b
theorem Zu1 {l:List Sm} {a b:Nat} (h:b≤a):wh l a b=true:=by
 unfold wh
 rw[show b-a=0 by omega];simp[whF,h]
theorem Zqa {l:List Sm} {a b:Nat} (h:a<b) (hq:ZeZ (l.getD a sm0) ((b:Int)-a-1)=true):wh l a b=false:=by
 unfold wh
 rw[show b-a=(b-a-1)+1 by omega,whF,hq]
 have: ¬b≤a:=by omega
 simp[this]
theorem Zse {l:List Sm} {a b:Nat} (h:a<b) (hq:ZeZ (l.getD a sm0) ((b:Int)-a-1)=false):
  wh l a b=(wh l (a+1) (mdS (l.getD a sm0) a)&&(wh l (mdS (l.getD a sm0) a) (eeS (l.getD a sm0) a)&&wh l (eeS (l.getD a sm0) a) b)):=by
 have:=Zgv hq
 have e1:mdS (l.getD a sm0) a=a+1+(l.getD a sm0).body.toNat:=rfl
 have e2:eeS (l.getD a sm0) a=a+1+(l.getD a sm0).body.toNat+(l.getD a sm0).els.toNat:=rfl
 unfold wh
 rw[show whF l (b-a) a b=whF l ((b-a-1)+1) a b from ZbI l _ _ a b (by omega) (by omega)]
 rw[whF,hq]
 have: ¬b≤a:=by omega
 rw[decide_eq_false this,Bool.false_or,z'W,y'Y]
 rw[ZbI l (b-a-1) _ (a+1) (mdS (l.getD a sm0) a) (by omega) (z'h _),ZbI l (b-a-1) _ (mdS (l.getD a sm0) a) (eeS (l.getD a sm0) a) (by omega) (z'h _),ZbI l (b-a-1) _ (eeS (l.getD a sm0) a) b (by omega) (z'h _)]
theorem ZfH {l:List Sm} {a b:Nat} (h:a<b) (hw:wh l a b=true):(0≤(l.getD a sm0).body∧0≤(l.getD a sm0).els∧(a:Int)+1+(l.getD a sm0).body+(l.getD a sm0).els≤b)∧wh l (a+1) (mdS (l.getD a sm0) a)=true∧wh l (mdS (l.getD a sm0) a) (eeS (l.getD a sm0) a)=true∧wh l (eeS (l.getD a sm0) a) b=true:=by
 cases hq:ZeZ (l.getD a sm0) ((b:Int)-a-1)with
 |true=>rw[Zqa h hq]at hw;cases hw
 |false=>
  have h1:=Zgv hq
  rw[Zse h hq]at hw
  simp only[z'f]at hw
  exact⟨by omega,hw⟩
def Zgr (l:List Sm):Nat→Nat→Nat→List Nat
 |0,_,_=>[]
 |f+1,a,b=>if b≤a then[]else a::Zgr l f (eeS (l.getD a sm0) a) b
theorem ZhW (x:Sm) (a:Nat):a<eeS x a:=by unfold eeS;omega
theorem Zgs (l:List Sm): ∀(f g a b:Nat),b-a≤f→b-a≤g→Zgr l f a b=Zgr l g a b
 |0,0,_,_,_,_=>rfl
 |0,g+1,a,b,h1,_=>by simp[Zgr,show b≤a by omega]
 |f+1,0,a,b,_,h2=>by simp[Zgr,show b≤a by omega]
 |f+1,g+1,a,b,h1,h2=>by
  have:=ZhW (l.getD a sm0) a
  unfold Zgr
  by_cases hb:b≤a
  ·rw[if_pos hb,if_pos hb]
  ·rw[if_neg hb,if_neg hb,Zgs l f g (eeS (l.getD a sm0) a) b (by omega) (by omega)]
def tp (l:List Sm) (a b:Nat):List Nat:=Zgr l (b-a) a b
theorem ZeS {l:List Sm} {a b:Nat} (h:b≤a):tp l a b=[]:=by unfold tp;rw[show b-a=0 by omega];rfl
theorem Zjn {l:List Sm} {a b:Nat} (h:a<b):tp l a b=a::tp l (eeS (l.getD a sm0) a) b:=by
 have:=ZhW (l.getD a sm0) a
 unfold tp
 rw[Zgs l (b-a) ((b-a-1)+1) a b (by omega) (by omega),Zgr,if_neg (by omega)]
 rw[Zgs l (b-a-1) (b-eeS (l.getD a sm0) a) _ b (by omega) (z'h _)]
theorem Zp7 (l:List Sm): ∀(n a b:Nat),b-a≤n→(tp l a b).length≤b-a
 |0,a,b,h=>by rw[ZeS (by omega)];exact z'A _
 |n+1,a,b,h=>by
  rcases z'i a b with hl|hl
  ·have:=ZhW (l.getD a sm0) a
   have:=Zp7 l n (eeS (l.getD a sm0) a) b (by omega)
   rw[Zjn hl,z'r];omega
  ·rw[ZeS hl];exact z'A _
theorem Zp6 (l:List Sm): ∀(n a b:Nat),b-a≤n→wh l a b=true→ ∀t,t∈tp l a b→a≤t∧0≤(l.getD t sm0).body∧0≤(l.getD t sm0).els∧(t:Int)+1+(l.getD t sm0).body+(l.getD t sm0).els≤b∧wh l (t+1) (mdS (l.getD t sm0) t)=true∧wh l (mdS (l.getD t sm0) t) (eeS (l.getD t sm0) t)=true
 |0,a,b,h,_,t,ht=>by rw[ZeS (by omega)]at ht;cases ht
 |n+1,a,b,h,hw,t,ht=>by
  rcases z'i a b with hl|hl
  ·have h0:=ZhW (l.getD a sm0) a
   obtain⟨h1,h2,h3,h4⟩:=ZfH hl hw
   rw[Zjn hl]at ht
   rcases z'F.1 ht with rfl|ht
   ·exact⟨z'h _,h1.1,h1.2.1,h1.2.2,h2,h3⟩
   ·obtain⟨q1,q2⟩:=Zp6 l n (eeS (l.getD a sm0) a) b (by omega) h4 t ht
    exact⟨by omega,q2⟩
  ·rw[ZeS hl]at ht;cases ht
def Zei (k:Int):Bool:=decide (k=10)||(decide (k=11)||decide (k=12))
def sdK (g:Nat→Nat→Nat) (l:List Sm) (n t:Nat):Nat:=match Zei (l.getD t sm0).kind with
 |true=>max n (max (1+g (t+1) (mdS (l.getD t sm0) t)) (1+g (mdS (l.getD t sm0) t) (eeS (l.getD t sm0) t)))
 |false=>n
def sdF (l:List Sm):Nat→Nat→Nat→Nat
 |0,_,_=>0
 |f+1,a,b=>(tp l a b).foldl (sdK (sdF l f) l) 0
theorem Zma {g:Nat→Nat→Nat} {m:Nat} (h: ∀a b,g a b≤m) (l:List Sm): ∀(ts:List Nat) (n:Nat),n≤m+1→ts.foldl (sdK g l) n≤m+1
 |[],n,hn=>hn
 |t::ts,n,hn=>by
  rw[List.foldl_cons]
  refine Zma h l ts _ ?_
  unfold sdK
  have h1:=h (t+1) (mdS (l.getD t sm0) t)
  have h2:=h (mdS (l.getD t sm0) t) (eeS (l.getD t sm0) t)
  split<;>omega
theorem ZiB (l:List Sm): ∀(f a b:Nat),sdF l f a b≤f
 |0,_,_=>z'h _
 |f+1,a,b=>Zma (ZiB l f) l _ _ (z'A _)
def Zbf (n:Nat) (g:Nat→Int×Int):Int×Int:=(((List.range n).map g).find? fun e=> !decide (e.1=0)).getD (0,0)
theorem Zcm {n k:Nat} {g:Nat→Int×Int} (hk:k<n) (h: ∀i,i<k→(g i).1=0) (hg:(g k).1≠0):Zbf n g=g k:=by
 unfold Zbf
 have e:((List.range n).map g).find? (fun e=> !decide (e.1=0))=some (g k):=by
  rw[List.find?_eq_some_iff_getElem]
  refine⟨by simp[hg],k,by simpa using hk,by simp,fun j hj=>?_⟩
  simp[h j hj]
 rw[e];rfl
theorem Zcn {n:Nat} {g:Nat→Int×Int} (h: ∀i,i<n→(g i).1=0):Zbf n g=(0,0):=by
 unfold Zbf
 have e:((List.range n).map g).find? (fun e=> !decide (e.1=0))=none:=by
  rw[List.find?_eq_none]
  intro x hx
  obtain⟨i,hi,rfl⟩:=z'D.1 hx
  simp[h i (z'U.1 hi)]
 rw[e];rfl
theorem Zsv {n:Nat} {g:Nat→Int×Int} (h:(Zbf n g).1=0): ∀i,i<n→(g i).1=0:=by
 intro i hi
 unfold Zbf at h
 cases hf:((List.range n).map g).find? (fun e=> !decide (e.1=0))with
 |none=>
  rw[List.find?_eq_none]at hf
  have:=hf (g i) (z'D.2 ⟨i,z'U.2 hi,rfl⟩)
  simpa using this
 |some x=>
  have:=List.find?_some hf
  rw[hf]at h
  simp at this
  exact absurd h this
def ixF (l:List ByteArray) (s:ByteArray):Int:=match l.findIdx? (fun x=>decide (x=s))with|none=> -1|some i=>i
theorem ZsK {l:List ByteArray} {s:ByteArray} {k:Nat} (hk:k<l.length) (h: ∀i,i<k→l.getD i e0≠s) (hg:l.getD k e0=s):ixF l s=k:=by
 unfold ixF
 have e:l.findIdx? (fun x=>decide (x=s))=some k:=by
  rw[List.findIdx?_eq_some_iff_getElem]
  have hv:=fun i (hi:i<l.length)=>(Zba (d:=e0) (z'c hi)).symm
  refine⟨hk,by rw[hv k hk];exact decide_eq_true hg,fun j hj=>?_⟩
  rw[hv j (by omega)]
  simpa using h j hj
 rw[e]
theorem Zt5 {l:List ByteArray} {s:ByteArray} (h: ∀i,i<l.length→l.getD i e0≠s):ixF l s= -1:=by
 unfold ixF
 have e:l.findIdx? (fun x=>decide (x=s))=none:=by
  rw[List.findIdx?_eq_none_iff]
  intro x hx
  obtain⟨i,hi⟩:=y'k hx
  have:=h i (z'b.1 hi).1
  rw[Zba hi]at this
  exact decide_eq_false this
 rw[e]
theorem Zt4 (l:List ByteArray) (s:ByteArray): -1≤ixF l s∧ixF l s<l.length:=by
 unfold ixF
 split
 ·omega
 ·rename_i i hi
  rw[List.findIdx?_eq_some_iff_getElem]at hi
  obtain⟨h,_⟩:=hi
  omega
end Go.Proofs.YthlkpnjjkgmlkaaGreat
