/- Contracts: the agents by which a node was found. No condition. -/
import Derived.Test.YtfneeacgkdhldaaGreatDp
import Derived.Test.YtfneeacgkdhldaaGreatDg
import Derived.Test.YtfneeacgkdhldaaGreatDd
import Derived.Test.YtfneeacgkdhldaaGreatDf
import Derived.Test.YtfneeacgkdhldaaGreatSa
import Derived.Test.YtfneeacgkdhldaaGreatXk
import Derived.Test.YtfneeacgkdhldaaGreatZm
import Derived.Test.YtfneeacgkdhldaaGreatRows
import Derived.Test.YtfneeacgkdhldaaGreatK1
import Derived.ProofKit
import Derived.OpenShut
import Derived.Lib.SmallJoins
import Derived.Test.YtfneeacgkdhldaaGreatRj
import Derived.Test.YtfneeacgkdhldaaGreatGe
namespace Go.Proofs.YtfneeacgkdhldaaGreat
set_option linter.unusedSimpArgs false
set_option linter.unusedVariables false
set_option maxRecDepth 20000
open Go Go.Proofs Go.Vc
theorem IW.path {n:Nat} {F:List Wy} (h:IW n F): ∀(k j:Nat) (e:Wy),j≤k→F[j]?=some e→e.2.2.2.length≤j
 |k,j,e,hk,he=>by
  rcases h.up j e he with h1|⟨j',e',h1,h2,h3,h4⟩
  ·rw[h1.2];exact z'M _
  ·cases k with
   |zero=>omega
   |succ k=>
    have:=IW.path h k j' e' (by omega) h2
    rw[h4,z'o,z'H,y'r]
    omega
theorem ZpS {α:Type} {l:List α} {i:Nat} {x:α} (h:l[i]?=some x):i<l.length:=by
 rcases z'g i l.length with h1|h1
 ·exact h1
 ·rw[z'z h1]at h;cases h
theorem ZhC {u:Un} {m r:Int} {a:Int}: ∀{p:List Int} {c c':Cf} {k k':Nat},goF u m r c p k=(c',k',0)→enM u c' m r a=true→goF u m r c (p++[a]) k=(actM u c' m r a,k'+1,0)
 |[],c,c',k,k',h,he=>by
  cases h
  simp only[z'T,goF,he]
 |x::p,c,c',k,k',h,he=>by
  simp only[y'i,goF]at h⊢
  cases hx:enM u c m r x with
  |true=>rw[hx]at h;exact ZhC h he
  |false=>rw[hx]at h;cases h
theorem Zg6 {g:Cs} {a:Int}: ∀{p:List Int} {x y:Int},ZeI g x p=y→0≤y→0≤ZcI g y a→ZeI g x (p++[a])=ZcI g y a
 |[],x,y,h,hy,hn=>by
  have h:x=y:=h
  subst h
  simp only[z'T,ZeI,show decide (ZcI g x a<0)=false from decide_eq_false (by omega)]
 |q::p,x,y,h,hy,hn=>by
  simp only[y'i,ZeI]at h⊢
  cases hx:decide (ZcI g x q<0)with
  |true=>rw[hx]at h;simp only at h;omega
  |false=>rw[hx]at h;exact Zg6 h hy hn
theorem Zk4 {a j:Int}: ∀{L:List Ed},(∀e,e∈L→e.2.1=a→e.2.2=j)→(∃e,e∈L∧e.2.1=a)→nxt L a=j
 |[],_,h=>by obtain⟨e,he,_⟩:=h;cases he
 |e::L,h,k=>by
  unfold nxt
  by_cases he:e.2.1=a
  ·rw[decide_eq_true he];exact h e (z'D ..) he
  ·rw[decide_eq_false he]
   obtain⟨d,hd,hda⟩:=k
   refine Zk4 (fun x hx=>h x (z'd _ hx)) ⟨d,?_,hda⟩
   rcases z'P.1 hd with rfl|hd
   ·exact absurd hda he
   ·exact hd
theorem Zdt {α:Type} [DecidableEq α] {mv:α→List Int} {ac:α→Int→α} {cf:List α} {n:Nat} {e:Nat×Int×Nat}:e∈w'C mv ac cf n↔ ∃c,e.1<n∧cf[e.1]?=some c∧e.2.1∈mv c∧e.2.2=cf.idxOf (ac c e.2.1):=by
 simp only[w'C,v'Z,z'G]
 constructor
 ·rintro⟨j,hj,h⟩
  split at h
  ·rename_i c hc
   obtain⟨a,ha,rfl⟩:=z'y.1 h
   exact⟨c,hj,hc,ha,rfl⟩
  ·cases h
 ·rintro⟨c,h1,h2,h3,h4⟩
  refine⟨e.1,h1,?_⟩
  rw[h2]
  exact z'y.2 ⟨e.2.1,h3,by rw[←h4]⟩
theorem Zfc {u:Un} {c:Cf} {m r a:Int} (h:a∈x'4 u c m r):enM u c m r a=true:=by
 simp only[x'4,mvK,z'y,y'x,z'G]at h
 obtain⟨i,⟨hi,hb⟩,rfl⟩:=h
 have hA:Zao u m (i:Int)=(y'C u m)[i]?:=by
  unfold Zao
  simp
 unfold enM
 rw[hA]
 cases hq:(y'C u m)[i]? with
 |none=>rw[hq]at hb;cases hb
 |some ag=>rw[hq]at hb;simpa using hb
theorem ZgK {α:Type} [DecidableEq α] {l:List α} (hn:l.Nodup) {j:Nat} {x:α} (h:l[j]?=some x):l.idxOf x=j:=by
 obtain⟨hj,hx⟩:=z'c.1 h
 subst hx
 exact hn.idxOf_getElem j hj
theorem ZfG {u:Un} {m r b:Int} {S:Spc Cf} (h:v'k u m r b=some S) (hb:1≤b):z'O (v'A S)=S.cf.length:=Zcq (Zev h hb)
theorem Zpr {u:Un} {m r b:Int} {S:Spc Cf} (h:v'k u m r b=some S) (hb:1≤b) {p j:Nat} {c:Cf} {a:Int} (hp:S.cf[p]?=some c) (ha:a∈x'4 u c m r) (hj:S.cf[j]?=some (actM u c m r a)):ZcI (v'A S) (p:Int) a=(j:Int):=by
 obtain⟨I,he,hm⟩:=Zaa h (by omega)
 have hn:=ZfG h hb
 have hpl:=(z'c.1 hp).1
 have hrow:v'B (v'A S) (p:Int)=v'f (edS S) p:=by
  unfold v'B
  rw[hn,show(decide ((0:Int)≤(p:Int))&&decide ((p:Int)<(S.cf.length:Int)))=true by simp;omega]
  simp only[z'f]
  exact ZfU _ _ hpl
 unfold ZcI
 rw[hrow]
 have mem: ∀e,e∈v'f (edS S) p↔ ∃x,x∈S.ed∧e=((x.1:Int),x.2.1,(x.2.2:Int))∧x.1=p:=fun e=>by
  simp only[v'f,edS,y'x,z'y,beq_iff_eq]
  constructor
  ·rintro⟨⟨x,hx,rfl⟩,h2⟩;exact⟨x,hx,rfl,Int.ofNat.inj h2⟩
  ·rintro⟨x,hx,rfl,h2⟩;exact⟨⟨x,hx,rfl⟩,congrArg Int.ofNat h2⟩
 refine Zk4 (fun e hx hea=>?_) ?_
 ·obtain⟨x,hx1,rfl,hx2⟩:=(mem e).1 hx
  rw[he,Zdt]at hx1
  obtain⟨c',k1,k2,k3,k4⟩:=hx1
  subst hx2
  rw[hp]at k2
  cases k2
  simp only at hea
  subst hea
  simp only
  rw[k4,ZgK I.nd hj]
 ·refine⟨((p:Int),a,(j:Int)),(mem _).2 ⟨(p,a,j),?_,rfl,rfl⟩,rfl⟩
  rw[he,Zdt]
  exact⟨c,hpl,hp,ha,(ZgK I.nd hj).symm⟩
theorem ZiO {u:Un} {m r b:Int} {S:Spc Cf} (h:v'k u m r b=some S) (hb:1≤b) (hb2:b≤1000000):Ze0 S.cf.length S.pa S.ag:=by
 obtain⟨I,_,_⟩:=Zaa h (by omega)
 have hl:=(ZaS h (by omega)).2.1
 refine⟨by omega,I.pal,I.agl,fun j h0 hj=>?_⟩
 obtain⟨p,a,c,h1,h2,_⟩:=I.by_ j h0 hj
 rw[z'e,h2]
 simp only[z'L];omega
theorem ZlH {u:Un} {m r b:Int} {S:Spc Cf} (h:v'k u m r b=some S) (hb:1≤b) (hb2:b≤1000000): ∀(k:Nat) (c:Cf),S.cf[k]?=some c→
  goF u m r (x'l u) (toF S.pa S.ag k) 0=(c,(toF S.pa S.ag k).length,0)∧ZeI (v'A S) 0 (toF S.pa S.ag k)=(k:Int):=by
 obtain⟨I,he,hm⟩:=Zaa h (by omega)
 have hT:=ZiO h hb hb2
 intro k
 induction k using Nat.strongRecOn with
 |_ k ih=>
  intro c hc
  have hk:=(z'c.1 hc).1
  rcases y'3 k with rfl|h0
  ·rw[I.first.1]at hc;cases hc
   exact⟨rfl,rfl⟩
  ·obtain⟨p,a,d,h1,h2,h3,h4,h5,h6⟩:=I.by_ k h0 hk
   rw[hc]at h6
   cases h6
   obtain⟨g1,g2⟩:=ih p h1 d h4
   have e1:(S.pa.getD k 0).toNat=p:=by rw[z'e,h2];rfl
   have e2:S.ag.getD k 0=a:=by rw[z'e,h3];rfl
   rw[Zfn hT h0 hk,e1,e2]
   have hnx:=Zpr h hb h4 h5 hc
   constructor
   ·rw[ZhC g1 (Zfc h5)];simp
   ·rw[Zg6 g2 (by omega) (by rw[hnx];omega),hnx]
abbrev Zo0 (u:Un) (m r b:Int):List D:=unC u++[iD m,iD r,iD b]
theorem Zjq {n:Nat} {P B:List Int} {k:Nat} (h:k<n):toI n P B (k:Int)=toF P B k:=by
 unfold toI
 rcases y'3 k with rfl|h0
 ·rfl
 ·rw[show(decide (0<(k:Int))&&decide ((k:Int)<(n:Int)))=true by simp;omega]
  simp
theorem Zmd {u:Un} {m r b:Int} {S:Spc Cf} (h:v'k u m r b=some S) (hb:1≤b) (hb2:b≤1000):OkG (v'A S):=by
 obtain⟨I,he,_⟩:=Zaa h (by omega)
 have hl:=(ZaS h (by omega)).2.1
 have h1: ∀n,(w'C (fun c=>x'4 u c m r) (fun c a=>actM u c m r a) S.cf n).length≤28*n:=by
  intro n
  induction n with
  |zero=>exact z'M _
  |succ n ih=>
   have e:w'C (fun c=>x'4 u c m r) (fun c a=>actM u c m r a) S.cf (n+1)=w'C (fun c=>x'4 u c m r) (fun c a=>actM u c m r a) S.cf n++(match S.cf[n]? with|some c=>(x'4 u c m r).map fun a=>(n,a,S.cf.idxOf (actM u c m r a))|none=>[]):=by
    unfold w'C
    rw[y'l,w'n]
    simp
    cases S.cf[n]?<;>rfl
   rw[e,z'o]
   split
   ·rename_i c _
    have:=ZgJ (u:=u) (c:=c) (m:=m) (r:=r)
    rw[z's];omega
   ·rw[y'r];omega
 have h2:=h1 S.cf.length
 rw[←he]at h2
 have h3:=Zip (edS S) S.cf.length
 rw[Zc7]at h3
 refine⟨?_,?_,?_⟩
 ·simp only[v'A,x'P,z's,List.length_range];omega
 ·simp only[v'A,x'P,z's];omega
 ·simp only[v'A,x'P,z's];omega
open Go Go.Proofs Go.Vc Go.ChangeShapes Go.WideShapes Go.ChangeAt Go.RowKit Go.Joins
theorem Zqn:ownKnob Tryz.prog.godebug=none:=by kernel_rfl
theorem Zkq {P:Program} {f:FuncId} {args:List D} (h:Pure P f args (bD true)) (w:World) (vs:List Value) (hr:RelL w (live [] (fun _=>False)) args vs):
  Calls P f vs.toArray w fun e w'=>e= .returned (.bool true)∧Below w.heap.size w w':=by
 refine(h.2 w (fun _=>False) vs ⟨fun b c hm=>(by cases hm),List.nodup_nil,fun b hb=>(by cases hb),fun b hb=>hb.elim⟩ hr).mono ?_
 rintro e w' ⟨v,he,d,H',⟨rfl,rfl⟩,h1,h2,h3⟩
 have hv:v= .bool true:=h1
 subst hv
 exact⟨he,h3.os,h3.tape,h3.output,h3.size,fun k hk=>h3.block k hk (by simp[Heap.blocks])⟩
theorem Zct {α:Type} (f:α→List D) (Q:List D→Prop) (h: ∀r,Q r→ ∃x,r=f x): ∀(rows:List (List D)),(∀r,r∈rows→Q r)→ ∃b:List α,rows=b.map f
 |[],_=>⟨[],rfl⟩
 |r::rs,hr=>by
  obtain⟨b,rfl⟩:=Zct f Q h rs fun r hr'=>hr r (z'd _ hr')
  obtain⟨x,rfl⟩:=h r (hr r (z'D ..))
  exact⟨x::b,rfl⟩
theorem ZoD (r:List D) (h:ShL [.int .i64] r): ∃n:Int,r=[iD n]:=by
 obtain⟨_,_,rfl,⟨n,rfl,_⟩,h⟩:=h
 rw[ShL]at h;subst h
 exact⟨n,rfl⟩
theorem Zjm {d:D} (h:Sh (.sl [.int .i64]) d): ∃l:List Int,d=z'C l:=by
 obtain⟨rows,rfl,_,h⟩:=h
 obtain⟨l,rfl⟩:=Zct (fun n:Int=>[iD n]) _ ZoD rows h
 exact⟨l,rfl⟩
theorem Zlw {d:D} (h:Sh (.sl [.int .i64,.int .i64,.int .i64]) d): ∃l:List Opc,d=z'S l:=by
 obtain⟨rows,rfl,_,h⟩:=h
 obtain⟨l,rfl⟩:=Zct opR _ (fun r h=>by
  obtain⟨_,_,rfl,⟨n1,rfl,_⟩,_,_,rfl,⟨n2,rfl,_⟩,_,_,rfl,⟨n3,rfl,_⟩,h⟩:=h
  rw[ShL]at h;subst h
  exact⟨(n1,n2,n3),rfl⟩) rows h
 exact⟨l,rfl⟩
abbrev Zpv:Ty:= .sl [.int .i64,.int .i64,.int .i64]
abbrev Zpi:List Ty:=[.int .i64,.int .i64,.int .i64,Zpv,Zpv,.bool,.int .i64]
theorem ZpH {r:List D} (h:ShL [.sl Zpi] r): ∃l:List Ins,r=[.sl false 7 (y'P l)]:=by
 obtain⟨_,_,rfl,⟨rows,rfl,_,hr⟩,h⟩:=h
 rw[ShL]at h;subst h
 obtain⟨l,rfl⟩:=Zct v'e _ (fun r h=>by
  obtain⟨_,_,rfl,⟨n1,rfl,_⟩,_,_,rfl,⟨n2,rfl,_⟩,_,_,rfl,⟨n3,rfl,_⟩,_,_,rfl,h4,_,_,rfl,h5,_,_,rfl,⟨b,rfl⟩,_,_,rfl,⟨n4,rfl,_⟩,h⟩:=h
  rw[ShL]at h;subst h
  obtain⟨e,rfl⟩:=Zlw h4
  obtain⟨f,rfl⟩:=Zlw h5
  exact⟨⟨n1,n2,n3,e,f,b,n4⟩,rfl⟩) rows hr
 exact⟨l,rfl⟩
abbrev Zga:List Ty:=[.int .i64,.sl [.int .i64],.sl [.int .i64],.sl [.sl Zpi],.int .i64,.int .i64,.int .i64]
theorem ZjJ {l:List D} (h:ShL Zga l): ∃u m r b,l=unC u++[iD m,iD r,iD b]:=by
 obtain⟨_,_,rfl,⟨md,rfl,_⟩,_,_,rfl,h1,_,_,rfl,h2,_,_,rfl,⟨cr,rfl,_,h3⟩,_,_,rfl,⟨m,rfl,_⟩,_,_,rfl,⟨r,rfl,_⟩,_,_,rfl,⟨b,rfl,_⟩,h⟩:=h
 rw[ShL]at h;subst h
 obtain⟨i0,rfl⟩:=Zjm h1
 obtain⟨rg,rfl⟩:=Zjm h2
 obtain⟨cd,rfl⟩:=Zct (fun l:List Ins=>[.sl false 7 (y'P l)]) _ (fun r h=>ZpH h) cr h3
 exact⟨⟨md,i0,rg,cd⟩,m,r,b,rfl⟩
theorem Zmf {g:Cs} (G:Gr g) (In:List Bool):ZdX (z'O g) (x'M g In)∧Zbg (x'M g In):=
 ⟨fun e he=>(ZaG G).1 e (y'x.1 he).1,List.Pairwise.sublist List.filter_sublist (ZaG G).2⟩
theorem ZnO {a:Int} {n:Nat} (h:0≤a∧a<n):inS [a] n=fun x=>x=a:=by
 funext x
 refine propext ⟨fun h=>by simpa using h.1,fun e=>?_⟩
 have e:x=a:=e
 subst e
 exact⟨y'E.2 rfl,h⟩
end Go.Proofs.YtfneeacgkdhldaaGreat
