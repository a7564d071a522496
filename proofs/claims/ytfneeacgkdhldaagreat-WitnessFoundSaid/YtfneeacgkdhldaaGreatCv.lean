/- Contracts: who can act where. No condition. -/
import Derived.Test.YtfneeacgkdhldaaGreatCs
import Derived.Test.YtfneeacgkdhldaaGreatCm
import Derived.Test.YtfneeacgkdhldaaGreatGe
import Derived.Test.YtfneeacgkdhldaaGreatRj
import Derived.Test.YtfneeacgkdhldaaGreatRt
import Derived.Test.YtfneeacgkdhldaaGreatGc
namespace Go.Proofs.YtfneeacgkdhldaaGreat
set_option maxHeartbeats 16000000
set_option linter.unusedSimpArgs false
set_option linter.unusedVariables false
set_option maxRecDepth 20000
open Go Go.Proofs Go.Vc
def enR (u:Un) (m r:Int) (c:Cf):List Bool:=(List.range (y'C u m).length).map fun a=>enM u c m r ((a:Nat):Int)
theorem ZiW (u:Un) (m r:Int) (c:Cf):(enR u m r c).length=(y'C u m).length:=by simp[enR]
theorem ZhS {u:Un} {c:Cf} {m r a:Int} (h:a∈x'4 u c m r):0≤a∧a<(y'C u m).length:=by
 unfold x'4 mvK at h
 obtain⟨i,hi,rfl⟩:=z'y.1 h
 have:=z'G.1 (y'x.1 hi).1
 omega
theorem Zf3 {α:Type} {l:List α} {k:Nat} {d:α} (h:k<l.length):l.take (k+1)=l.take k++[l.getD k d]:=by
 rw[y'A,z'e,z'b h]
 rfl
def v'3 (l:List (List Bool)):List (List D):=l.map fun b=>[x'F b]
theorem w'a (l:List (List Bool)):(v'3 l).length=l.length:=z's ..
theorem Zkg {H:Heap}: ∀(l:List (List Bool)),FzR H 1 (v'3 l) (l.map x'F)
 |[]=>trivial
 |b::l=>⟨rfl,⟨_,_,rfl,Fz.refl _ _,trivial⟩,Zkg l⟩
attribute [local irreducible] y'5 VCg VCw VCx
theorem Zo9 {u:Un} {c:Cf} {m r:Int} {a:Nat} (ha:a<(y'C u m).length):(enR u m r c).getD a false=enM u c m r (a:Nat):=by
 simp[enR,z'e,ha]
theorem ZiF (u:Un) (hu:OkU u) (m r:Int) (C:List Cf) (g:Cs) (P B:List Int) (hl:C.length≤1000000) (hC: ∀c,c∈C→Rt u c m r):Pure Tryz.prog 7 [.agg (unC u),.agg (spC C g P B),iD m,iD r] (.sl false 1 (v'3 (C.map (enR u m r)))):=by
 have ca:=Zb8 u hu m
 have hn:=v'd u m
 refine Fun.fz ?_
 refine Fun.of T [.tmp 8] Tryz.func7 rfl Tryz.ntmps7 Tryz.results7 rfl (by kernel_rfl) ?_
 repeat' first|refine vb (t:=34) rfl rfl rfl rfl ?_|refine vb (t:=25) rfl rfl rfl rfl ?_|refine vs T rfl fun K hK=>?_;(try simp (disch:=omega) only[go_sem,Nat.reduceAdd]);(refine hK _ _ ?_;clear hK K)|refine st rfl ?_|refine nl ?_
 generalize hN:(y'C u m).length=n at*
 refine VC.loop {x:Nat×G//x.1≤C.length∧gOk x.2 x.1} (fun x=>⟨z'J [(2,iD m),(3,iD r),(4,.pt (unC u)),(5,.pt (spC C g P B)),(9,.gs x.1.2 x.1.1),(10,iD (x.1.1:Nat))],shp x.1.2 73 1 (((C.take x.1.1).map (enR u m r)).map x'F) []⟩) (fun x=>C.length-x.1.1) ⟨(0,none),z'M _,rfl⟩ ?_ ?_
 ·refine Weak.sub ?_
  simp[sub,upd,w'S]
 rintro⟨⟨k,x⟩,hk,hx⟩
 dsimp only at hk hx⊢
 rcases z'g k C.length with hlt|hge
 case inr=>
  obtain rfl:k=C.length:=by omega
  rw[z'X]
  repeat' first|refine vs T rfl fun K hK=>?_;(try simp (disch:=omega) only[go_sem,Nat.reduceBEq,w'S]);(refine hK _ _ ?_;clear hK K)|refine st rfl ?_|refine sc rfl ?_|refine nl ?_|with_reducible refine z'j (fun hc=>?_) (fun hc=>?_)<;>(try simp only[decide_eq_true_eq,decide_eq_false_iff_not,z'm]at hc)<;>(try(exfalso;omega))
  refine z'n T (z'p _) ?_
  have q:=v'G (e:=73) (H:=shp x 73 1 ((C.map (enR u m r)).map x'F) []) (g:=x) (n:=C.length) (l:=(C.map (enR u m r)).map x'F) (rows:=v'3 (C.map (enR u m r))) (by rw[w'a,z's]) hx (fun b c e=>by subst e;exact x'x) (Zkg _)
  exact q
 have hR:=hC _ (x'w (d:=(default:Cf)) hlt)
 have hel:(enR u m r (C.getD k default)).length=n:=by rw[ZiW,hN]
 repeat' first|refine vs T rfl fun K hK=>?_;(try simp (disch:=omega) only[go_sem,Nat.reduceBEq,w'S]);(refine hK _ _ ?_;clear hK K)|refine st rfl ?_|refine sc rfl ?_|refine nl ?_|with_reducible refine z'j (fun hc=>?_) (fun hc=>?_)<;>(try simp only[decide_eq_true_eq,decide_eq_false_iff_not,z'm]at hc)<;>(try(exfalso;omega))
 refine VC.loop {p:Nat×G//p.1≤n∧gOk p.2 p.1} (fun p=>⟨z'J [(2,iD m),(3,iD r),(4,.pt (unC u)),(5,.pt (spC C g P B)),(9,.gs x k),(10,iD (k:Nat)),(11,.gs p.1.2 p.1.1),(12,iD (p.1.1:Nat))],shp p.1.2 4 1 (((enR u m r (C.getD k default)).take p.1.1).map bD) (shp x 73 1 (((C.take k).map (enR u m r)).map x'F) [])⟩) (fun p=>n-p.1.1) ⟨(0,none),z'M _,rfl⟩ ?_ ?_
 ·refine z'v rfl ?_
  simp[sub,upd]
 rintro⟨⟨a,y⟩,ha,hy⟩
 dsimp only at ha hy⊢
 rcases z'g a n with hal|hge
 ·have ce:=Zgm hR (a:Nat)
  have hea:=Zo9 (u:=u) (c:=C.getD k default) (m:=m) (r:=r) (a:=a) (by omega)
  repeat' first|refine dr (id:=9) T 12 (by kernel_rfl) ?_|refine gn ?_|apply VCg.step T rfl rfl;focus((try simp (disch:=omega) only[go_sem,Nat.reduceBEq,Nat.reduceAdd,Nat.reduceMul,Nat.reduceLeDiff,ZfJ]);(first|exact rfl|refine⟨?_,rfl⟩;try omega|refine Op1.callp rfl rfl (ce) rfl ?_;exact⟨rfl,rfl⟩))|refine vs T rfl fun K hK=>?_;(try simp (disch:=omega) only[go_sem,Nat.reduceBEq,Nat.reduceAdd,Nat.reduceLeDiff,w64]);(first|refine hK _ _ ?_;clear hK K|refine⟨_,_,_,_,(by repeat (exact Sp.here)),?_,(by exact⟨rfl,rfl⟩),⟨by decide,?_⟩,fun g' hg'=>hK _ _ ?_⟩<;>clear hK K|refine Op1.callp rfl rfl (ca) rfl ?_;refine hK _ _ ?_;clear hK K)|refine st rfl ?_|refine sc rfl ?_|refine nl ?_|with_reducible refine z'j (fun hc=>?_) (fun hc=>?_)<;>(try simp only[decide_eq_true_eq,decide_eq_false_iff_not,z'm]at hc)<;>(try(exfalso;omega))
  ·simp only[z's,z'F]
   omega
  ·omega
  ·refine⟨⟨(a+1,g'),by dsimp only;exact⟨by omega,hg'⟩⟩,z'v ?_ ?_,by dsimp only;omega⟩
   ·dsimp only
    rw[Zf3 (d:=false) (by omega),z'E,hea]
    rfl
   ·simp[sub,upd]
 obtain rfl:a=n:=by omega
 rw[←hel,z'X,hel]
 refine VC.weak (Weak.fzs (t:=11) (g:=y) (e:=4) (esz:=1) (rows:=bRs (enR u m r (C.getD k default))) (X:=shp x 73 1 (((C.take k).map (enR u m r)).map x'F) []) (by rw[Zcd]) (by rw[w'5,hel];rfl) (Zc4 _)) ?_
 repeat' first|refine vs T rfl fun K hK=>?_;(try simp (disch:=omega) only[go_sem,Nat.reduceBEq,Nat.reduceAdd,Nat.reduceMul,Nat.reduceLeDiff,w64]);(first|refine hK _ _ ?_;clear hK K|refine⟨_,_,_,_,(by repeat (exact Sp.here)),?_,(by exact⟨rfl,rfl⟩),⟨by decide,?_⟩,fun g' hg'=>hK _ _ ?_⟩<;>clear hK K|refine Op1.callp rfl rfl (ca) rfl ?_;refine hK _ _ ?_;clear hK K)|refine st rfl ?_|refine sc rfl ?_|refine nl ?_|with_reducible refine z'j (fun hc=>?_) (fun hc=>?_)<;>(try simp only[decide_eq_true_eq,decide_eq_false_iff_not,z'm]at hc)<;>(try(exfalso;omega))
 ·simp only[z's,z'F]
  omega
 ·omega
 refine⟨⟨(k+1,g'),by omega,hg'⟩,z'v ?_ ?_,by dsimp only;omega⟩
 ·dsimp only
  rw[Zf3 (d:=default) hlt,z'E,z'E]
  rfl
 ·simp[sub,upd]
theorem Zlg (u:Un) (hu:OkU u) (m r b:Int) (hb:b≤1000):Pure Tryz.prog 6 [.agg (unC u),iD m,iD r,iD b] (.tup [.agg (spR u m r b),iD (v'5 u m r b)]):=by
 cases hU:y't u with
 |false=>exact ZmO u hu m r b hU
 |true=>
 cases hA:Zal m r b with
 |false=>exact ZmN u hu m r b hU hA
 |true=>exact Zox u hu m r b hU hA hb
theorem Zlx {u:Un} {m r b:Int} (he:v'5 u m r b=0): ∃S,y't u=true∧Zal m r b=true∧v'k u m r b=some S∧spR u m r b=spA S:=by
 cases hU:y't u with
 |false=>simp[v'5,hU]at he
 |true=>
 cases hA:Zal m r b with
 |false=>simp[v'5,hU,hA]at he
 |true=>
 cases hS:v'k u m r b with
 |none=>simp[v'5,hU,hA,hS]at he
 |some S=>exact⟨S,rfl,rfl,rfl,by simp only[spR,hU,hA,hS,w'1]⟩
theorem ZpI {u:Un} {m r b:Int} (he:v'5 u m r b≠0):spR u m r b=spC [] ⟨[],[],[]⟩ [] []:=by
 cases hU:y't u with
 |false=>simp only[spR,hU,y'p]
 |true=>
 cases hA:Zal m r b with
 |false=>simp only[spR,hU,hA,w's]
 |true=>
 cases hS:v'k u m r b with
 |none=>simp only[spR,hU,hA,hS,w'1]
 |some S=>simp[v'5,hU,hA,hS]at he
theorem ZpJ (u:Un) (m r b:Int): ∃C g P B,spR u m r b=spC C g P B:=by
 by_cases he:v'5 u m r b=0
 ·obtain⟨S,hU,hA,hS,e⟩:=Zlx he
  exact⟨_,_,_,_,e⟩
 ·exact⟨_,_,_,_,ZpI he⟩
end Go.Proofs.YtfneeacgkdhldaaGreat
