/- The program's graph of sorted edges. No condition. -/
import Derived.Test.YthlkpnjjkgmlkaaGreatLa
import Derived.Test.YthlkpnjjkgmlkaaGreatZr
import Derived.Test.YthlkpnjjkgmlkaaGreatYi
import Derived.Test.YthlkpnjjkgmlkaaGreatCn
import Derived.Test.YthlkpnjjkgmlkaaGreatK2
import Derived.Test.YthlkpnjjkgmlkaaGreatLc
import Derived.Test.YthlkpnjjkgmlkaaGreatXe
namespace Go.Proofs.YthlkpnjjkgmlkaaGreat
set_option linter.unusedSimpArgs false
set_option linter.unusedVariables false
set_option maxRecDepth 20000
open Go Go.Proofs Go.Vc
def ZtT (l:List Ed) (k i:Nat):Nat:=(l.take k).countP fun e=>e.1 == (i:Int)
def nx1 (l:List Ed) (k j:Nat):Int:=(((upE l j).length+ZtT l k j:Nat):Int)
theorem VCd.sim {P:Program} {n:Nat} {ops:Array Oper} {E:Nat→D} {H:Heap} {Q:Exit→St→Prop} (J:(Nat→Prop)→(Nat→D)→Heap→Prop) (s e f:Nat) (hse:Nat.ble s e=true) (hef:Nat.ble e f=true) (hB:v'o ops f=true) (hbar:Za5 ops s e=true) (hd:ops.toList.all (x'K n)=true)
  (h0:J (fun k=>k<s) E H)
  (hst: ∀(L:Nat→Prop) (E':Nat→D) (H':Heap) (i:Nat) (o:Oper),J L E' H'→ops[i]?=some o→s≤i→i<e→ ¬L i→(∀ed∈o.after,Region.binds .any ed=true→L ed.on)→o.guard=none∧OpS P o (evD E') H' (fun d H''=>J (fun k=>k=i∨L k) (updO E' o.dst d) H''))
  (h: ∀E' H',J (fun k=>k<e) E' H'→VCd P n ops e ⟨E',H'⟩ Q):VCd P n ops s ⟨E,H⟩ Q:=by
 have hB:=w's hB
 have hef:e≤f:=z'F hef
 have hse:s≤e:=z'F hse
 intro x a0 w hn' hn hs hsz hl0
 have hdst: ∀k t,z'U ops k=some t→t<x.n:=fun k t hk=>hn▸Zbx (l:=ops.toList) hd k t (by simpa using hk)
 refine ZoA (I:=fun listed a w=>listed.size=ops.size∧(∀k o,ops[k]?=some o→isL listed k→ ∀ed∈o.after,Region.binds .any ed=true→isL listed ed.on)∧ ∃E' H',SRel x ⟨E',H'⟩ a w∧J (isL listed) E' H') hB hef (fun i h1 h2 k h0 hk=>Za6 hbar i h1 h2 k h0 hk) (fun l a w h=>h.1) (fun l a w h=>h.2.1) ?_ ?_ _ hn' a0 w ?_ (fun k hk=>(hl0 k).2 hk) (fun k hk=>by have:=(hl0 k).1 hk;omega) ⟨hsz,?_,E,H,hs,?_⟩
 ·rintro listed a w i ⟨h1,h2,E',H',h3,h4⟩ hr hsi hie
  obtain⟨hisz,hil,o,ho,hready⟩:=y'Q h1 hr
  obtain⟨hg,hop⟩:=hst (isL listed) E' H' i o h4 ho hsi hie hil hready
  have hdi:z'U ops i=o.dst:=by simp[z'U,ho]
  have hm:isL (listed.setIfInBounds i true)=fun k=>k=i∨isL listed k:=by funext k;exact propext (x'u (by omega))
  unfold wpOp
  rw[ho]
  simp only
  rw[if_pos (by simp[Region.wanted,hg])]
  refine .inl ((hop w x.L0 a.eval h3.inv (fun y _=>h3.ev y)).upon ?_)
  rintro v w' ⟨d,H'',hJ,hv,hi',he⟩
  refine⟨by simp[h1],?_,updO E' o.dst d,H'',h3.put (fun t ht=>hdst i t (by rw[hdi,ht])) hv hi' he,by rw[hm];exact hJ⟩
  intro k ok hok hk ed hed hb
  rw[hm]at hk⊢
  rcases hk with rfl|hk
  ·rw[ho]at hok;cases hok
   exact .inr (hready ed hed hb)
  ·exact .inr (h2 k ok hok hk ed hed hb)
 ·rintro listed a w hl ⟨h1,h2,E',H',h3,h4⟩
  have hm:isL listed=fun k=>k<e:=by funext k;exact propext (hl k)
  exact h E' H' (by rw[←hm];exact h4) x a w listed hn h3 h1 hl
 ·unfold unl
  have key: ∀m,m≤ops.size→((List.range m).filter fun k=> !hn'.getD k true).length=m-s:=by
   intro m
   induction m with
   |zero=>intro _;simp
   |succ m ihm=>
    intro hm
    rw[y'I,z'7,z'e,ihm (by omega)]
    by_cases hmf:m<s
    ·have:hn'.getD m true=true:=(y'm (by rw[hsz];omega)).2 ((hl0 m).2 hmf)
     rw[y'C,this];simp;omega
    ·have:hn'.getD m true=false:=by
      cases hq:hn'.getD m true with
      |false=>rfl
      |true=>exact absurd ((hl0 m).1 ((y'm (by rw[hsz];omega)).1 hq)) hmf
     rw[y'C,this];simp;omega
  exact key ops.size (z'c _)
 ·intro k ok hok hk ed hed hb
  have h1:=hB.back k ok hok ed hed hb
  have h2:=(hl0 k).1 hk
  exact(hl0 _).2 (by omega)
 ·have hm:isL hn'=fun k=>k<s:=by funext k;exact propext (hl0 k)
  rw[hm];exact h0
section
variable {P : Program} (T : Tab P) {ops : Array Oper} {st i m : Nat} {o : Oper} {l : List Oper} {H H1 : Heap} {Φ : D → Heap → Prop} {E : Nat → D} {r rA : Nat → D} {d d0 : D} {K : (Nat → D) → (Nat → D) → Prop}
theorem ZrH (h:opC T o (evD E) H Φ):OpS P o (evD E) H Φ:=by
 obtain⟨Ψ,h1,h2⟩:=w'O T h
 exact h1.mono h2
theorem NW.nil {R:Nat→Oper→(Nat→D)→D→Prop} (h:K E r):NW R K 0 i l E r:=h
theorem NW.stepA (hi:Nat.beq i st=false) (hg:o.guard=none) (h:opC T o (evD E) H (fun d' H'=>d'=d∧H'=H)) (k:NW (NRA P ops st H Φ) K m (i+1) l (updO E o.dst d) (fun k=>if k=i then d else r k)):NW (NRA P ops st H Φ) K (m+1) i (o::l) E r:=
 ⟨d,⟨hg,fun e=>absurd e (Nat.ne_of_beq_eq_false hi),fun _ _=>Zap T h⟩,k⟩
end
attribute [local irreducible] x'r VCg VCw VCx
abbrev zC (l:Nat):HC:= .cells 3 (l*1) ((List.replicate l (0:Int)).map iD)
def oB (l:Nat):Option Nat→Heap
 |none=>[]
 |some b=>[(b,zC l)]
def oG:Option Nat→Heap
 |none=>[]
 |some b=>[(b,.cells 55 3 [.gs none 0,.gs none 0,.gs none 0])]
abbrev gsZ (b l:Nat):D:= .gs (some (b,l)) l
structure J16 (E0:Nat→D) (l:Nat) (S M:D) (H0:Heap) (L:Nat→Prop) (E:Nat→D) (H:Heap) (xa xt xg:Option Nat):Prop where
 old: ∀t,t<82→t≠10→E t=E0 t
 s0:L 0→E 82=S
 s1:L 1→E 83=M
 s2:L 2→E 84=iD (l:Nat)
 s4:L 4→E 86=M
 s5:L 5→E 87=iD (l:Nat)
 a:L 3→ ∃b,xa=some b∧E 85=gsZ b l
 a': ¬L 3→xa=none
 t:L 6→ ∃b,xt=some b∧E 88=gsZ b l
 t': ¬L 6→xt=none
 g:L 8→ ∃b,xg=some b∧E 10=pD b
 g': ¬L 8→xg=none
 v:L 7→ ∃b c,xa=some b∧xt=some c∧E 89= .agg [S,gsZ b l,gsZ c l]
 hp:H.Perm (oB l xa++(oB l xt++(oG xg++H0)))
theorem Zd1 {E:Nat→D} {s:Nat} {d:D}:upd E s d s=d:=by simp[upd]
theorem w'k {E:Nat→D} {s t:Nat} {d:D} (h:s≠t):upd E s d t=E t:=by
 have:(s == t)=false:=by rw[beq_eq_false_iff_ne];exact h
 simp[upd,this]
theorem Zje {P:Program} (T:Tab P) {o:Oper} {E:Nat→D} {H:Heap} {Φ:D→Heap→Prop} (h: ∀K:D→Heap→Prop,(∀d H',Φ d H'→K d H')→opC T o (evD E) H K):OpS P o (evD E) H Φ:=ZrH T (h Φ fun _ _ q=>q)
section
variable {E0 E : Nat → D} {l : Nat} {S M : D} {H0 H : Heap} {L : Nat → Prop} {xa xt xg : Option Nat}
theorem J16.mv {k s:Nat} {d:D} (j:J16 E0 l S M H0 L E H xa xt xg) (hs:(k=0∧s=82∧d=S)∨(k=1∧s=83∧d=M)∨(k=2∧s=84∧d=iD (l:Nat))∨(k=4∧s=86∧d=M)∨(k=5∧s=87∧d=iD (l:Nat))):
  J16 E0 l S M H0 (fun i=>i=k∨L i) (upd E s d) H xa xt xg:=by
 rcases hs with⟨rfl,rfl,rfl⟩|⟨rfl,rfl,rfl⟩|⟨rfl,rfl,rfl⟩|⟨rfl,rfl,rfl⟩|⟨rfl,rfl,rfl⟩
 all_goals exact
  {old:=fun t h1 h2=>(w'k (by omega)).trans (j.old t h1 h2)
   s0:=fun h=>by first|exact Zd1|exact(w'k (by decide)).trans (j.s0 (h.resolve_left (by decide)))
   s1:=fun h=>by first|exact Zd1|exact(w'k (by decide)).trans (j.s1 (h.resolve_left (by decide)))
   s2:=fun h=>by first|exact Zd1|exact(w'k (by decide)).trans (j.s2 (h.resolve_left (by decide)))
   s4:=fun h=>by first|exact Zd1|exact(w'k (by decide)).trans (j.s4 (h.resolve_left (by decide)))
   s5:=fun h=>by first|exact Zd1|exact(w'k (by decide)).trans (j.s5 (h.resolve_left (by decide)))
   a:=fun h=>let ⟨b,h1,h2⟩:=j.a (h.resolve_left (by decide));⟨b,h1,(w'k (by decide)).trans h2⟩
   a':=fun h=>j.a' fun q=>h (.inr q)
   t:=fun h=>let ⟨b,h1,h2⟩:=j.t (h.resolve_left (by decide));⟨b,h1,(w'k (by decide)).trans h2⟩
   t':=fun h=>j.t' fun q=>h (.inr q)
   g:=fun h=>let ⟨b,h1,h2⟩:=j.g (h.resolve_left (by decide));⟨b,h1,(w'k (by decide)).trans h2⟩
   g':=fun h=>j.g' fun q=>h (.inr q)
   v:=fun h=>let ⟨b,c,h1,h2,h3⟩:=j.v (h.resolve_left (by decide));⟨b,c,h1,h2,(w'k (by decide)).trans h3⟩
   hp:=j.hp}
theorem J16.agg {a b:Nat} (j:J16 E0 l S M H0 L E H xa xt xg) (ha:xa=some a) (hb:xt=some b):J16 E0 l S M H0 (fun i=>i=7∨L i) (upd E 89 (.agg [S,gsZ a l,gsZ b l])) H xa xt xg where
 old t h1 h2:=(w'k (by omega)).trans (j.old t h1 h2)
 s0 h:=(w'k (by decide)).trans (j.s0 (h.resolve_left (by decide)))
 s1 h:=(w'k (by decide)).trans (j.s1 (h.resolve_left (by decide)))
 s2 h:=(w'k (by decide)).trans (j.s2 (h.resolve_left (by decide)))
 s4 h:=(w'k (by decide)).trans (j.s4 (h.resolve_left (by decide)))
 s5 h:=(w'k (by decide)).trans (j.s5 (h.resolve_left (by decide)))
 a h:=let ⟨b,h1,h2⟩:=j.a (h.resolve_left (by decide));⟨b,h1,(w'k (by decide)).trans h2⟩
 a' h:=j.a' fun q=>h (.inr q)
 t h:=let ⟨b,h1,h2⟩:=j.t (h.resolve_left (by decide));⟨b,h1,(w'k (by decide)).trans h2⟩
 t' h:=j.t' fun q=>h (.inr q)
 g h:=let ⟨b,h1,h2⟩:=j.g (h.resolve_left (by decide));⟨b,h1,(w'k (by decide)).trans h2⟩
 g' h:=j.g' fun q=>h (.inr q)
 v _:=⟨a,b,ha,hb,Zd1⟩
 hp:=j.hp
end
def nxt (L:List Ed) (a:Int):Int:=
 match L with
 |[]=> -1
 |e::L=>match decide (e.2.1=a)with|true=>e.2.2|false=>nxt L a
abbrev Wy:=Int×Int×Int×List Int
def isN (In:List Bool) (x:Int):Bool:=match decide (0≤x)&&decide (x<In.length)with|true=>In.getD x.toNat false|false=>false
def Zpx (F:List Wy) (x:Int):Bool:=F.any fun e=>decide (e.1=x)
def ZqQ (In:List Bool) (x:Int) (p:List Int) (F:List Wy) (e:Ed):List Wy:=match isN In e.2.2&& !Zpx F e.2.2 with|true=>F++[(e.2.2,x,e.2.1,p++[e.2.1])]|false=>F
structure IW (n:Nat) (F:List Wy):Prop where
 nd:(F.map (·.1)).Nodup
 bd: ∀e,e∈F→0≤e.1∧e.1<n
 up: ∀(j:Nat) (e:Wy),F[j]?=some e→(e.2.1= -1∧e.2.2.2=[])∨ ∃(j':Nat) (e':Wy),j'<j∧F[j']?=some e'∧e'.1=e.2.1∧e.2.2.2=e'.2.2.2++[e.2.2.1]
theorem Zpy {F:List Wy} {x:Int}:Zpx F x=true↔x∈F.map (·.1):=by
 simp only[Zpx,List.any_eq_true,decide_eq_true_eq,z'w]
theorem Zkx: ∀{n:Nat} {l:List Int},l.Nodup→(∀x,x∈l→0≤x∧x<(n:Nat))→l.length≤n
 |0,[],_,_=>z'c _
 |0,x::l,_,h=>by have:=h x (z't ..);omega
 |n+1,l,hn,h=>by
  have h1:=Zkx (n:=n) (l:=l.filter fun x=>decide (x≠(n:Int))) (hn.filter _) fun x hx=>by
   have hx':=x'H.1 hx
   have:=h x hx'.1
   have h3:=hx'.2
   simp only[decide_eq_true_eq]at h3
   omega
  have h2:l.length≤(l.filter fun x=>decide (x≠(n:Int))).length+1:=by
   clear h1 h
   induction l with
   |nil=>exact z'm _
   |cons y l ih=>
    obtain⟨hy,hl⟩:=y'O.1 hn
    by_cases hyn:y=(n:Int)
    ·have he:(l.filter fun x=>decide (x≠(n:Int)))=l:=List.filter_eq_self.2 fun x hx=>decide_eq_true fun e=>hy (by rw[hyn, ←e];exact hx)
     rw[List.filter_cons_of_neg (by simp[hyn]),he]
     exact z'c _
    ·rw[List.filter_cons_of_pos (by simp[hyn])]
     have:=ih hl
     simp only[z'q]
     omega
  omega
theorem IW.len {n:Nat} {F:List Wy} (h:IW n F):F.length≤n:=by
 rw[←List.length_map (·.1)]
 exact Zkx h.nd fun x hx=>by obtain⟨e,he,rfl⟩:=z'w.1 hx;exact h.bd e he
theorem IW.step {n:Nat} {F:List Wy} (h:IW n F) {In:List Bool} {i:Nat} {e:Wy} (he:F[i]?=some e) {d:Ed} (hd:0≤d.2.2∧d.2.2<n):IW n (ZqQ In e.1 e.2.2.2 F d):=by
 unfold ZqQ
 split
 ·rename_i hc
  simp only[z'd,z'y]at hc
  have hno:d.2.2∉F.map (·.1):=fun hm=>by rw[Zpy.2 hm]at hc;cases hc.2
  refine⟨?_,?_,?_⟩
  ·rw[z'A,z'p,y'a]
   exact y'S.2 ⟨h.nd,by simp,fun a ha b hb=>by rw[z'R]at hb;subst hb;exact fun q=>hno (by rw[show d.2.2=a from q.symm];exact ha)⟩
  ·intro x hx
   rcases z'X.1 hx with hx|hx
   ·exact h.bd x hx
   ·rw[z'R]at hx;subst hx;exact hd
  ·intro j x hx
   rcases z'g j F.length with hj|hj
   ·rw[y'8 hj]at hx
    rcases h.up j x hx with h1|⟨j',e',h1,h2,h3⟩
    ·exact .inl h1
    ·exact .inr ⟨j',e',h1,by rw[y'8 (by omega)];exact h2,h3⟩
   ·rw[w'B hj]at hx
    have hi:i<F.length:=by
     rcases z'g i F.length with h|h
     ·exact h
     ·rw[x'd h]at he;cases he
    have hx':x=(d.2.2,e.1,d.2.1,e.2.2.2++[d.2.1]):=by
     cases hjj:j-F.length with
     |zero=>rw[hjj]at hx;simpa using hx.symm
     |succ k=>rw[hjj]at hx;simp at hx
    subst hx'
    exact .inr ⟨i,e,by omega,by rw[y'8 hi];exact he,rfl,rfl⟩
 ·exact h
theorem IW.one {n:Nat} {a:Int} (h:0≤a∧a<n):IW n [(a, -1, -1,[])]:=by
 refine⟨by simp,fun e he=>by rw[z'R]at he;subst he;exact h,fun j e he=>?_⟩
 cases j with
 |zero=>cases he;exact .inl ⟨rfl,rfl⟩
 |succ j=>simp at he
abbrev b0:ByteArray:=⟨#[]⟩
end Go.Proofs.YthlkpnjjkgmlkaaGreat
/- Slices of one's own that begin at any place of their block: made, read, cut, appended to. No condition. -/
namespace Go.Vc
set_option linter.unusedSimpArgs false
set_option linter.unusedVariables false
open Go
end Go.Vc
/- Contracts: a way by some nodes, the program. No condition. -/
namespace Go.Proofs.YthlkpnjjkgmlkaaGreat
set_option linter.unusedSimpArgs false
set_option linter.unusedVariables false
set_option maxRecDepth 20000
open Go Go.Proofs Go.Vc
theorem IW.path {n:Nat} {F:List Wy} (h:IW n F): ∀(k j:Nat) (e:Wy),j≤k→F[j]?=some e→e.2.2.2.length≤j
 |k,j,e,hk,he=>by
  rcases h.up j e he with h1|⟨j',e',h1,h2,h3,h4⟩
  ·rw[h1.2];exact z'm _
  ·cases k with
   |zero=>omega
   |succ k=>
    have:=IW.path h k j' e' (by omega) h2
    rw[h4,z'e,z'q,z'V]
    omega
open Go Go.Proofs Go.Vc Go.ChangeShapes Go.WideShapes Go.ChangeAt Go.RowKit Go.Joins
end Go.Proofs.YthlkpnjjkgmlkaaGreat
