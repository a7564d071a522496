/- Contracts: the agents by which a node was found. No condition. -/
import Derived.Test.YtomcmfbpmkklmaaGreatDy
import Derived.Test.YtomcmfbpmkklmaaGreatDg
import Derived.Test.YtomcmfbpmkklmaaGreatDf
import Derived.Test.YtomcmfbpmkklmaaGreatSa
import Derived.Test.YtomcmfbpmkklmaaGreatXk
import Derived.Test.YtomcmfbpmkklmaaGreatZm
import Derived.Test.YtomcmfbpmkklmaaGreatRows
import Derived.Test.YtomcmfbpmkklmaaGreatK1
import Derived.ProofKit
import Derived.OpenShut
import Derived.Lib.SmallJoins
import Derived.Test.YtomcmfbpmkklmaaGreatDd
import Derived.Test.YtomcmfbpmkklmaaGreatDb
import Derived.Test.YtomcmfbpmkklmaaGreatRj
namespace Go.Proofs.YtomcmfbpmkklmaaGreat
set_option linter.unusedSimpArgs false
set_option linter.unusedVariables false
set_option maxRecDepth 20000
open Go Go.Proofs Go.Vc
attribute [local irreducible] y'0 VCg VCw VCx
theorem IW.path {n:Nat} {F:List Wy} (h:IW n F): ∀(k j:Nat) (e:Wy),j≤k→F[j]?=some e→e.2.2.2.length≤j
 |k,j,e,hk,he=>by
  rcases h.up j e he with h1|⟨j',e',h1,h2,h3,h4⟩
  ·rw[h1.2];exact z'6 _
  ·cases k with
   |zero=>omega
   |succ k=>
    have:=IW.path h k j' e' (by omega) h2
    rw[h4,z'k,z'D,z'5]
    omega
def U16:Un:=⟨4,[0],[0],[[⟨4,0,0,Zqu,[],false,0⟩,⟨22,0,0,[],[],false,0⟩]]⟩
theorem Zea:OkU U16:=ZaT (by kernel_rfl)
def Zkt:Cf:=⟨[0],[[]],[0],[[]]⟩
def ZpP:Cf:=⟨[1],[[]],[0],[[(0,1)]]⟩
def Zfz:Cf:=⟨[1],[[]],[1],[[]]⟩
def C16:List Cf:=[Zkt,ZpP,Zfz]
def g16:Cs:=⟨[0,1,2,2],[0,1],[1,2]⟩
theorem Zqp:spR U16 2 1 9=spC C16 g16 [-1,0,1] [-1,0,1]:=by kernel_rfl
theorem ZlX {u:Un} {c:Cf} {m r a:Int} (h:a∈y'6 u c m r):enM u c m r a=true:=by
 simp only[y'6,mvK,z'y,x'B,z'K]at h
 obtain⟨i,⟨hi,hb⟩,rfl⟩:=h
 have hA:Zaq u m (i:Int)=(y'N u m)[i]?:=by
  unfold Zaq
  simp
 unfold enM
 rw[hA]
 cases hq:(y'N u m)[i]? with
 |none=>rw[hq]at hb;cases hb
 |some ag=>rw[hq]at hb;simpa using hb
theorem ZhA {α:Type} [DecidableEq α] {l:List α} (hn:l.Nodup) {j:Nat} {x:α} (h:l[j]?=some x):l.idxOf x=j:=by
 obtain⟨hj,hx⟩:=z'c.1 h
 subst hx
 exact hn.idxOf_getElem j hj
theorem Zgp {u:Un} {m r b:Int} {S:Spc Cf} (h:w'h u m r b=some S) (hb:1≤b):v'3 (v'z S)=S.cf.length:=ZiS (Zfe h hb)
theorem ZgN {u:Un} {m r b:Int} {S:Spc Cf} (h:w'h u m r b=some S) (hb:1≤b) (hb2:b≤1000000):Zqv S.cf.length S.pa S.ag:=by
 obtain⟨I,_,_⟩:=v'O h (by omega)
 have hl:=(ZaL h (by omega)).2.1
 refine⟨by omega,I.pal,I.agl,fun j h0 hj=>?_⟩
 obtain⟨p,a,c,h1,h2,_⟩:=I.by_ j h0 hj
 rw[z'd,h2]
 simp only[z'I];omega
abbrev Zef (u:Un) (m r b:Int):List D:=unC u++[iD m,iD r,iD b]
theorem Zix {u:Un} {m r b:Int} {S:Spc Cf} (h:w'h u m r b=some S) (hb:1≤b) (hb2:b≤1000):OkG (v'z S):=by
 obtain⟨I,he,_⟩:=v'O h (by omega)
 have hl:=(ZaL h (by omega)).2.1
 have h1: ∀n,(w'D (fun c=>y'6 u c m r) (fun c a=>actM u c m r a) S.cf n).length≤28*n:=by
  intro n
  induction n with
  |zero=>exact z'6 _
  |succ n ih=>
   have e:w'D (fun c=>y'6 u c m r) (fun c a=>actM u c m r a) S.cf (n+1)=w'D (fun c=>y'6 u c m r) (fun c a=>actM u c m r a) S.cf n++(match S.cf[n]? with|some c=>(y'6 u c m r).map fun a=>(n,a,S.cf.idxOf (actM u c m r a))|none=>[]):=by
    unfold w'D
    rw[y'p,w'd]
    simp
    cases S.cf[n]?<;>rfl
   rw[e,z'k]
   split
   ·rename_i c _
    have:=Zcu (u:=u) (c:=c) (m:=m) (r:=r)
    rw[z'p];omega
   ·rw[z'5];omega
 have h2:=h1 S.cf.length
 rw[←he]at h2
 have h3:=Zik (edS S) S.cf.length
 rw[Zby]at h3
 refine⟨?_,?_,?_⟩
 ·simp only[v'z,x'M,z'p,List.length_range];omega
 ·simp only[v'z,x'M,z'p];omega
 ·simp only[v'z,x'M,z'p];omega
open Go Go.Proofs Go.Vc Go.ChangeShapes Go.WideShapes Go.ChangeAt Go.RowKit Go.Joins
theorem ZhZ:ownKnob Tryz.prog.godebug=none:=by kernel_rfl
theorem Zco {P:Program} {f:FuncId} {args:List D} (h:Pure P f args (bD true)) (w:World) (vs:List Value) (hr:RelL w (live [] (fun _=>False)) args vs):
  Calls P f vs.toArray w fun e w'=>e= .returned (.bool true)∧Below w.heap.size w w':=by
 refine(h.2 w (fun _=>False) vs ⟨fun b c hm=>(by cases hm),v'5,fun b hb=>(by cases hb),fun b hb=>hb.elim⟩ hr).mono ?_
 rintro e w' ⟨v,he,d,H',⟨rfl,rfl⟩,h1,h2,h3⟩
 have hv:v= .bool true:=h1
 subst hv
 exact⟨he,h3.os,h3.tape,h3.output,h3.size,fun k hk=>h3.block k hk (by simp[Heap.blocks])⟩
theorem Za1 {α:Type} (f:α→List D) (Q:List D→Prop) (h: ∀r,Q r→ ∃x,r=f x): ∀(rows:List (List D)),(∀r,r∈rows→Q r)→ ∃b:List α,rows=b.map f
 |[],_=>⟨[],rfl⟩
 |r::rs,hr=>by
  obtain⟨b,rfl⟩:=Za1 f Q h rs fun r hr'=>hr r (z'e _ hr')
  obtain⟨x,rfl⟩:=h r (hr r (z'C ..))
  exact⟨x::b,rfl⟩
theorem Zoi (r:List D) (h:ShL [.int .i64] r): ∃n:Int,r=[iD n]:=by
 obtain⟨_,_,rfl,⟨n,rfl,_⟩,h⟩:=h
 rw[ShL]at h;subst h
 exact⟨n,rfl⟩
theorem Zdw {d:D} (h:Sh (.sl [.int .i64]) d): ∃l:List Int,d=z'S l:=by
 obtain⟨rows,rfl,_,h⟩:=h
 obtain⟨l,rfl⟩:=Za1 (fun n:Int=>[iD n]) _ Zoi rows h
 exact⟨l,rfl⟩
theorem ZpR {d:D} (h:Sh (.sl [.int .i64,.int .i64]) d): ∃l:List En,d=buf l:=by
 obtain⟨rows,rfl,_,h⟩:=h
 obtain⟨l,rfl⟩:=Za1 (α:=En) (fun e=>[iD e.1,iD e.2]) _ (fun r h=>by
  obtain⟨_,_,rfl,⟨n1,rfl,_⟩,_,_,rfl,⟨n2,rfl,_⟩,h⟩:=h
  rw[ShL]at h;subst h
  exact⟨(n1,n2),rfl⟩) rows h
 exact⟨l,rfl⟩
theorem Zlb {d:D} (h:Sh (.sl [.int .i64,.int .i64,.int .i64]) d): ∃l:List Opc,d=z'R l:=by
 obtain⟨rows,rfl,_,h⟩:=h
 obtain⟨l,rfl⟩:=Za1 opR _ (fun r h=>by
  obtain⟨_,_,rfl,⟨n1,rfl,_⟩,_,_,rfl,⟨n2,rfl,_⟩,_,_,rfl,⟨n3,rfl,_⟩,h⟩:=h
  rw[ShL]at h;subst h
  exact⟨(n1,n2,n3),rfl⟩) rows h
 exact⟨l,rfl⟩
abbrev Zo4:Ty:= .sl [.int .i64,.int .i64,.int .i64]
abbrev ZpJ:List Ty:=[.int .i64,.int .i64,.int .i64,Zo4,Zo4,.bool,.int .i64]
theorem Zpw {r:List D} (h:ShL [.sl ZpJ] r): ∃l:List Ins,r=[.sl false 7 (y'J l)]:=by
 obtain⟨_,_,rfl,⟨rows,rfl,_,hr⟩,h⟩:=h
 rw[ShL]at h;subst h
 obtain⟨l,rfl⟩:=Za1 v'B _ (fun r h=>by
  obtain⟨_,_,rfl,⟨n1,rfl,_⟩,_,_,rfl,⟨n2,rfl,_⟩,_,_,rfl,⟨n3,rfl,_⟩,_,_,rfl,h4,_,_,rfl,h5,_,_,rfl,⟨b,rfl⟩,_,_,rfl,⟨n4,rfl,_⟩,h⟩:=h
  rw[ShL]at h;subst h
  obtain⟨e,rfl⟩:=Zlb h4
  obtain⟨f,rfl⟩:=Zlb h5
  exact⟨⟨n1,n2,n3,e,f,b,n4⟩,rfl⟩) rows hr
 exact⟨l,rfl⟩
abbrev ZkC:List Ty:=[.sl [.int .i64],.sl [.sl [.int .i64]],.sl [.int .i64],.sl [.sl [.int .i64,.int .i64]]]
theorem Zmo {l:List D} (h:ShL ZkC l): ∃c,l=cfC c:=by
 obtain⟨_,_,rfl,h4,_,_,rfl,⟨rr,rfl,_,h5⟩,_,_,rfl,h6,_,_,rfl,⟨br,rfl,_,h7⟩,h⟩:=h
 rw[ShL]at h;subst h
 obtain⟨pc,rfl⟩:=Zdw h4
 obtain⟨me,rfl⟩:=Zdw h6
 obtain⟨rs,rfl⟩:=Za1 (fun l:List Int=>[z'S l]) _ (fun r h=>by
  obtain⟨_,_,rfl,h1,h⟩:=h
  rw[ShL]at h;subst h
  obtain⟨l,rfl⟩:=Zdw h1
  exact⟨l,rfl⟩) rr h5
 obtain⟨bs,rfl⟩:=Za1 (fun l:List En=>[buf l]) _ (fun r h=>by
  obtain⟨_,_,rfl,h1,h⟩:=h
  rw[ShL]at h;subst h
  obtain⟨l,rfl⟩:=ZpR h1
  exact⟨l,rfl⟩) br h7
 exact⟨⟨pc,rs,me,bs⟩,rfl⟩
abbrev Zal:List Ty:=[.int .i64,.sl [.int .i64],.sl [.int .i64],.sl [.sl ZpJ],.int .i64,.int .i64,.int .i64]
theorem ZbQ {l:List D} (h:ShL Zal l): ∃u m r b,l=unC u++[iD m,iD r,iD b]:=by
 obtain⟨_,_,rfl,⟨md,rfl,_⟩,_,_,rfl,h1,_,_,rfl,h2,_,_,rfl,⟨cr,rfl,_,h3⟩,_,_,rfl,⟨m,rfl,_⟩,_,_,rfl,⟨r,rfl,_⟩,_,_,rfl,⟨b,rfl,_⟩,h⟩:=h
 rw[ShL]at h;subst h
 obtain⟨i0,rfl⟩:=Zdw h1
 obtain⟨rg,rfl⟩:=Zdw h2
 obtain⟨cd,rfl⟩:=Za1 (fun l:List Ins=>[.sl false 7 (y'J l)]) _ (fun r h=>Zpw h) cr h3
 exact⟨⟨md,i0,rg,cd⟩,m,r,b,rfl⟩
end Go.Proofs.YtomcmfbpmkklmaaGreat
