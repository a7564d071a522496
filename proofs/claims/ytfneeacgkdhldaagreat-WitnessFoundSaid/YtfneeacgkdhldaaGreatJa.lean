/- Contracts: what the reference sees on a circle. No condition. -/
import Derived.Test.YtfneeacgkdhldaaGreatSa
import Derived.Test.YtfneeacgkdhldaaGreatRj
import Derived.Test.YtfneeacgkdhldaaGreatZq
import Derived.Test.YtfneeacgkdhldaaGreatCv
import Derived.Test.YtfneeacgkdhldaaGreatGc
namespace Go.Proofs.YtfneeacgkdhldaaGreat
set_option linter.unusedSimpArgs false
set_option linter.unusedVariables false
set_option maxRecDepth 20000
open Go Go.Proofs Go.Vc
section
variable {u : Un} {c : Cf} {m r : Int}
end
section
variable {u : Un} {m r : Int}
theorem Zpk {md:Int} {p w:List Int} (h1:((x'5 u m r p).2.2 == 0)=true) (h2:0<w.length) (h3:md=1∨md=2) (h4:v'R u m r (x'5 u m r p).1 w w.length=true)
  (h5:cyC u m r (x'5 u m r p).1 w w.length=(x'5 u m r p).1) (h6:cyU u m r md w (x'5 u m r p).1= -1):Zc3 u m r md p w=true:=by
 unfold Zc3 Zmh
 rw[h1,h4,h5,h6,ZdJ,decide_eq_false (by omega)]
 rcases h3 with rfl|rfl<;>rfl
theorem Zm4 {md stops:Int} {on ac:List Int} (h:Zc1 md stops on ac= -1): ∀i,i<on.length→ZaM md stops on ac i=false:=by
 intro i hi
 unfold Zc1 at h
 cases hf:(List.range on.length).find? (ZaM md stops on ac)with
 |some a=>rw[hf]at h;simp only at h;omega
 |none=>
  rw[List.find?_eq_none]at hf
  have:=hf i (z'G.2 hi)
  simpa using this
theorem ZcT {n a:Nat} (f:Nat→Nat) (h:a<n):(x'6 n f).getD a 0=((f a:Nat):Int):=by
 rw[z'e,Zjp f h]
 rfl
theorem ZnC {md:Int} {w:List Int} {c:Cf}:cyU u m r md w c= -1↔ ∀a,a<(y'C u m).length→v'4 w w.length a=0→ ¬(md=1∧v'm u m r c w w.length a=w.length)∧ ¬(md=2∧v'm u m r c w w.length a>0):=by
 unfold cyU
 constructor
 ·intro h a ha h0
  have:=Zm4 h a (by rw[w'y];exact ha)
  unfold ZaM at this
  rw[ZcT _ ha,ZcT _ ha,h0]at this
  refine⟨fun⟨h1,h2⟩=>?_,fun⟨h1,h2⟩=>?_⟩
  ·subst h1;rw[h2]at this;simp at this
  ·subst h1;simp at this;omega
 ·intro h
  refine Zgs fun a ha=>?_
  rw[w'y]at ha
  unfold ZaM
  rw[ZcT _ ha,ZcT _ ha]
  by_cases h0:v'4 w w.length a=0
  ·obtain⟨h1,h2⟩:=h a ha h0
   rw[x'Z]
   right
   rw[Bool.or_eq_false_iff]
   constructor
   ·rw[x'Z]
    by_cases e:md=1
    ·right;rw[beq_eq_false_iff_ne];intro hh;exact h1 ⟨e,by omega⟩
    ·left;simpa using e
   ·rw[x'Z]
    by_cases e:md=2
    ·right;rw[decide_eq_false_iff_not];intro hh;exact h2 ⟨e,by omega⟩
    ·left;simpa using e
  ·rw[x'Z]
   left
   rw[beq_eq_false_iff_ne]
   omega
end
def Chn:Int→List Ed→Int→Prop
 |x,[],y=>x=y
 |x,e::es,y=>e.1=x∧Chn e.2.2 es y
abbrev agE (es:List Ed):List Int:=es.map fun e=>e.2.1
theorem Chn.app: ∀{es fs:List Ed} {x y z:Int},Chn x es y→Chn y fs z→Chn x (es++fs) z
 |[],fs,x,y,z,h,k=>by cases h;exact k
 |e::es,fs,x,y,z,h,k=>⟨h.1,h.2.app k⟩
theorem Chn.one (e:Ed):Chn e.1 [e] e.2.2:=⟨rfl,rfl⟩
theorem ZoR {l:List Ed} {a:Int} {w:List Int} {b:Int} (h:Way l a w b): ∃es,(∀e,e∈es→e∈l)∧Chn a es b∧w=agE es:=by
 induction h with
 |nil=>exact⟨[],fun e h=>(by cases h),rfl,rfl⟩
 | @snoc w e _ hm ih=>
  obtain⟨es,h1,h2,h3⟩:=ih
  refine⟨es++[e],fun d hd=>?_,h2.app (Chn.one e),by rw[h3];simp[agE]⟩
  rcases y'g.1 hd with hd|hd
  ·exact h1 d hd
  ·rw[y'E]at hd;exact hd▸hm
theorem Zhs: ∀{es:List Ed} {x y:Int},Chn x es y→ ∀e,e∈es→e.2.2=y∨ ∃e',e'∈es∧e'.1=e.2.2
 |[],x,y,h,e,he=>by cases he
 |d::es,x,y,h,e,he=>by
  rcases z'P.1 he with rfl|he
  ·cases es with
   |nil=>exact .inl h.2
   |cons f es=>exact .inr ⟨f,by simp,h.2.1⟩
  ·rcases Zhs h.2 e he with q|⟨e',h1,h2⟩
   ·exact .inl q
   ·exact .inr ⟨e',z'd _ h1,h2⟩
theorem ZlX {es:List Ed} {x:Int} (h:Chn x es x) (hne:es≠[]) {i:Int} (hi:i=x∨ ∃e,e∈es∧e.2.2=i): ∃e,e∈es∧e.1=i:=by
 have h0: ∃e,e∈es∧e.1=x:=by
  cases es with
  |nil=>exact absurd rfl hne
  |cons e es=>exact⟨e,by simp,h.1⟩
 rcases hi with rfl|⟨e,he,rfl⟩
 ·exact h0
 ·rcases Zhs h e he with q|⟨e',h1,h2⟩
  ·rw[q];exact h0
  ·exact⟨e',h1,h2⟩
section
variable {u : Un} {m r b : Int} {S : Spc Cf}
theorem Zhx (h:v'k u m r b=some S) (hb:1≤b) {e:Ed} (he:e∈x'S (v'A S)): ∃(p q:Nat) (c:Cf),e.1=(p:Int)∧e.2.2=(q:Int)∧S.cf[p]?=some c∧e.2.1∈x'4 u c m r∧S.cf[q]?=some (actM u c m r e.2.1):=by
 have hok:=Zev h hb
 rw[v'A,Zfs hok (ZjO h hb)]at he
 obtain⟨I,hE,hM⟩:=Zaa h (by omega)
 obtain⟨x,hx,rfl⟩:=z'y.1 he
 rw[hE,Zdt]at hx
 obtain⟨c,h1,h2,h3,h4⟩:=hx
 have hm:=hM _ _ h2 _ h3
 refine⟨x.1,x.2.2,c,rfl,rfl,h2,h3,?_⟩
 have:=List.idxOf_lt_length_of_mem hm
 rw[h4,z'b this,List.getElem_idxOf]
theorem Zht {c:Cf} {a:Int} {w:List Int} {k:Nat}:cyC u m r c (a::w) (k+1)=cyC u m r (actM u c m r a) w k:=by simp[cyC]
theorem Zkz {c:Cf} {a:Int} {w:List Int} {k:Nat}:v'R u m r c (a::w) (k+1)=(enM u c m r a&&v'R u m r (actM u c m r a) w k):=by
 unfold v'R
 rw[List.range_succ_eq_map,y'X,List.all_map]
 congr 1
theorem Zks (h:v'k u m r b=some S) (hb:1≤b): ∀{es:List Ed} {x:Nat} {y:Int} {c:Cf},Chn x es y→(∀e,e∈es→e∈x'S (v'A S))→S.cf[x]?=some c→
  v'R u m r c (agE es) (agE es).length=true∧(∃z:Nat,y=(z:Int)∧S.cf[z]?=some (cyC u m r c (agE es) (agE es).length))∧ ∀(k:Nat) (e:Ed),es[k]?=some e→ ∃p:Nat,e.1=(p:Int)∧S.cf[p]?=some (cyC u m r c (agE es) k)
 |[],x,y,c,hc,_,hx=>⟨rfl,⟨x,hc.symm,hx⟩,fun k e he=>by cases he⟩
 |e::es,x,y,c,hc,hm,hx=>by
  obtain⟨p,q,c',e1,e2,h2,h3,h4⟩:=Zhx h hb (hm e (by simp))
  have hpx:p=x:=by have:=hc.1;omega
  subst hpx
  rw[hx]at h2;cases h2
  have hc2:=hc.2
  rw[e2]at hc2
  obtain⟨i1,i2,i3⟩:=Zks h hb hc2 (fun d hd=>hm d (z'd _ hd)) h4
  refine⟨?_,?_,?_⟩
  ·rw[agE,z'B,z'H,Zkz,Zfc h3,z'W]
   exact i1
  ·obtain⟨z,z1,z2⟩:=i2
   exact⟨z,z1,by rw[agE,z'B,z'H,Zht];exact z2⟩
  ·intro k d hd
   cases k with
   |zero=>
    cases hd
    exact⟨p,e1,by simpa[cyC]using hx⟩
   |succ k=>
    obtain⟨p',q1,q2⟩:=i3 k d (by simpa using hd)
    exact⟨p',q1,by rw[agE,z'B,Zht];exact q2⟩
def enS (u:Un) (m r:Int) (S:Spc Cf) (i:Int) (a:Nat):Bool:=((S.cf.map (enR u m r)).getD i.toNat []).getD a false
theorem ZkF {p:Nat} {c:Cf} (hc:S.cf[p]?=some c) {a:Nat} (ha:a<(y'C u m).length):enS u m r S (p:Int) a=enM u c m r (a:Nat):=by
 unfold enS
 simp only[z'f,z'e,y'c,hc,x'k,z'L]
 simp[enR,ha]
theorem ZpZ (hu:OkU u) (hU:y't u=true) (hA:Zal m r b=true) (h:v'k u m r b=some S) {md:Int} (hmd:md=1∨md=2) {x:Nat} (hxl:x<S.cf.length) {es:List Ed} (hc:Chn x es x) (hm: ∀e,e∈es→e∈x'S (v'A S)) (hne:es≠[])
  (hf: ∀a,a<(y'C u m).length→(a:Int)∈agE es∨((md=1→ ∃e,e∈es∧enS u m r S e.1 a=false)∧(md=2→ ∀e,e∈es→enS u m r S e.1 a=false))):Zc3 u m r md (toI S.cf.length S.pa S.ag x) (agE es)=true:=by
 have hA':=hA
 simp only[Zal,z'i,decide_eq_true_eq]at hA'
 have hb:=hA'.2.2.1
 obtain⟨c,hcx⟩: ∃c,S.cf[x]?=some c:=⟨_,z'b hxl⟩
 have hto:=(ZlH h hb (by omega) x c hcx).1
 have hrep:x'5 u m r (toI S.cf.length S.pa S.ag x)=(c,(toF S.pa S.ag x).length,0):=by
  have e1:toI S.cf.length S.pa S.ag x=toF S.pa S.ag x:=by
   unfold toI
   rcases y'3 x with rfl|h0
   ·rfl
   ·rw[show(decide (0<(x:Int))&&decide ((x:Int)<(S.cf.length:Int)))=true by simp;omega]
    simp
  have hM:Zb3 m r=true:=by
   unfold Zb3
   rw[decide_eq_true hA'.1.1,decide_eq_true hA'.1.2,decide_eq_true hA'.2.1.1,decide_eq_true hA'.2.1.2]
   rfl
  rw[e1]
  unfold x'5
  rw[hU,hM]
  exact hto
 obtain⟨k1,⟨z,z1,z2⟩,k3⟩:=Zks h hb hc hm hcx
 have hz:z=x:=by omega
 subst hz
 have hI:=(Zaa h (by omega)).1
 rw[hcx]at z2
 refine Zpk ?_ ?_ hmd ?_ ?_ ?_
 ·rw[hrep];rfl
 ·cases es with
  |nil=>exact absurd rfl hne
  |cons e es=>simp[agE]
 ·rw[hrep];exact k1
 ·rw[hrep];exact(y'k z2).symm
 ·rw[hrep,ZnC]
  intro a ha hac
  have hnot: ¬(a:Int)∈agE es:=fun hmem=>by
   have:0<v'4 (agE es) (agE es).length a:=by
    unfold v'4
    rw[z'X]
    exact List.count_pos_iff.2 hmem
   omega
  obtain⟨f1,f2⟩:=(hf a ha).resolve_left hnot
  have at_: ∀(k:Nat) (e:Ed),es[k]?=some e→enM u (cyC u m r c (agE es) k) m r (a:Nat)=enS u m r S e.1 a:=by
   intro k e he
   obtain⟨p,p1,p2⟩:=k3 k e he
   rw[p1,ZkF p2 ha]
  constructor
  ·rintro⟨hmd1,hon⟩
   obtain⟨e,he,hen⟩:=f1 hmd1
   obtain⟨k,hk⟩:=y'S he
   have hkl:k<(agE es).length:=by have:=(z'c.1 hk).1;simpa[agE]using this
   unfold v'm at hon
   have hall:(List.range (agE es).length).countP (fun i=>enM u (cyC u m r c (agE es) i) m r (a:Nat))=(List.range (agE es).length).length:=by rw[hon,List.length_range]
   rw[List.countP_eq_length]at hall
   have:=hall k (z'G.2 hkl)
   rw[at_ k e hk,hen]at this
   cases this
  ·rintro⟨hmd2,hon⟩
   unfold v'm at hon
   obtain⟨k,hk,hen⟩:=List.countP_pos_iff.1 hon
   have hkl:=z'G.1 hk
   have hke:k<es.length:=by simpa[agE]using hkl
   have he:es[k]?=some es[k]:=z'b hke
   have:=f2 hmd2 es[k] (List.getElem_mem hke)
   rw[at_ k _ he,this]at hen
   cases hen
end
end Go.Proofs.YtfneeacgkdhldaaGreat
