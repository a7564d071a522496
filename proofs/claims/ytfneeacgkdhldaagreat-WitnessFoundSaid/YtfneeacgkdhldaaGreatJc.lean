/- Contracts: who acts in a part, and whether it is fair. No condition. -/
import Derived.Test.YtfneeacgkdhldaaGreatJb
namespace Go.Proofs.YtfneeacgkdhldaaGreat
set_option maxHeartbeats 16000000
set_option linter.unusedSimpArgs false
set_option linter.unusedVariables false
set_option maxRecDepth 20000
open Go Go.Proofs Go.Vc
attribute [local irreducible] y'5 VCg VCw VCx
theorem Zko {α:Type} {L:List α} {f:α→Bool} {d:α} {k:Nat} (hk:k<L.length) (h:f (L.getD k d)=true):L.any f=true:=List.any_eq_true.2 ⟨_,x'w hk,h⟩
theorem Zho {α:Type} {L:List α} {f:α→Bool} {d:α} (h: ∀i,i<L.length→f (L.getD i d)=false):L.any f=false:=by
 rw[List.any_eq_false]
 intro x hx
 obtain⟨i,hi,rfl⟩:=List.getElem_of_mem hx
 have:=h i hi
 rw[z'e,z'b hi]at this
 simpa using this
theorem x'm {p:Nat→Prop} {k:Nat} (h: ∀i,i<k→p i) (hk:p k): ∀i,i<k+1→p i:=fun i hi=>by
 rcases z'g i k with h'|h'
 ·exact h i h'
 ·obtain rfl:i=k:=by omega
  exact hk
theorem ZhF (l:List Int) (hl:l.length≤1000000) (a:Int):Pure Tryz.prog 105 [z'C l,iD a] (bD (decide (a∈l))):=by
 refine Fun.of T [.tmp 4] Tryz.func105 rfl Tryz.ntmps105 Tryz.results105 rfl (by kernel_rfl) ?_
 repeat' first|refine vs T rfl fun K hK=>?_;(try simp (disch:=omega) only[go_sem]);(refine hK _ _ ?_;clear hK K)|refine st rfl ?_|refine nl ?_
 refine VC.loop {k:Nat//k≤l.length∧ ∀i,i<k→ ¬l.getD i 0=a} (fun x=>⟨z'J [(0,z'C l),(1,iD a),(5,iD (x.1:Nat))],[]⟩) (fun x=>l.length-x.1) ⟨0,by omega,fun i hi=>by omega⟩ ?_ ?_
 ·refine Weak.sub ?_
  simp[sub,upd]
 rintro⟨k,hk,hs⟩
 dsimp only
 rcases z'g k l.length with hlt|hge
 case inr=>
  obtain rfl:k=l.length:=by omega
  have hno:decide (a∈l)=false:=by
   rw[decide_eq_false_iff_not]
   intro hm
   obtain⟨i,hi,he⟩:=List.mem_iff_getElem.1 hm
   exact hs i hi (by rw[z'e,z'b hi,z'L,he])
  rw[hno]
  repeat' first|refine vs T rfl fun K hK=>?_;(try simp (disch:=omega) only[go_sem,Nat.reduceBEq,z'k]);(refine hK _ _ ?_;clear hK K)|refine st rfl ?_|refine sc rfl ?_|refine nl ?_|exact z'n T (z'a _) ⟨rfl,rfl⟩|with_reducible refine z'j (fun hc=>?_) (fun hc=>?_)<;>(try simp only[decide_eq_true_eq,decide_eq_false_iff_not,z'm]at hc)<;>(try(exfalso;omega))
 have hm:=x'w (d:=(0:Int)) hlt
 generalize hx:l.getD k 0=x at hm
 by_cases he:x=a
 ·subst he
  rw[decide_eq_true hm]
  repeat' first|refine vs T rfl fun K hK=>?_;(try simp (disch:=omega) only[go_sem,Nat.reduceBEq,y'w,hx,z'k,z'f]);(first|refine hK _ _ ?_;clear hK K|refine⟨?_,hK _ _ ?_⟩<;>clear hK K;focus(try omega))|refine st rfl ?_|refine sc rfl ?_|refine nl ?_|exact z'n T (z'a _) ⟨rfl,rfl⟩|with_reducible refine z'j (fun hc=>?_) (fun hc=>?_)<;>(try simp only[decide_eq_true_eq,decide_eq_false_iff_not,z'm]at hc)<;>(try(exfalso;omega))
 ·have e1:(x == a)=false:=by simpa using he
  repeat' first|refine vs T rfl fun K hK=>?_;(try simp (disch:=omega) only[go_sem,Nat.reduceBEq,y'w,hx,e1,z'k,w64,z'f]);(first|refine hK _ _ ?_;clear hK K|refine⟨?_,hK _ _ ?_⟩<;>clear hK K;focus(try omega))|refine st rfl ?_|refine sc rfl ?_|refine nl ?_|with_reducible refine z'j (fun hc=>?_) (fun hc=>?_)<;>(try simp only[decide_eq_true_eq,decide_eq_false_iff_not,z'm]at hc)<;>(try(exfalso;omega))
  refine⟨⟨k+1,hlt,x'm hs (by rw[hx];exact he)⟩,Weak.sub ?_,by dsimp only;omega⟩
  simp[sub,upd]
theorem ZhG (l:List Int) (hl:l.length≤1000000) (a:Int):Pure Tryz.prog 104 [z'C l,iD a] (bD (decide (a∈l))):=by
 refine Fun.of T [.tmp 4] Tryz.func104 rfl Tryz.ntmps104 Tryz.results104 rfl (by kernel_rfl) ?_
 repeat' first|refine vs T rfl fun K hK=>?_;(try simp (disch:=omega) only[go_sem]);(refine hK _ _ ?_;clear hK K)|refine st rfl ?_|refine nl ?_
 refine VC.loop {k:Nat//k≤l.length∧ ∀i,i<k→ ¬l.getD i 0=a} (fun x=>⟨z'J [(0,z'C l),(1,iD a),(5,iD (x.1:Nat))],[]⟩) (fun x=>l.length-x.1) ⟨0,by omega,fun i hi=>by omega⟩ ?_ ?_
 ·refine Weak.sub ?_
  simp[sub,upd]
 rintro⟨k,hk,hs⟩
 dsimp only
 rcases z'g k l.length with hlt|hge
 case inr=>
  obtain rfl:k=l.length:=by omega
  have hno:decide (a∈l)=false:=by
   rw[decide_eq_false_iff_not]
   intro hm
   obtain⟨i,hi,he⟩:=List.mem_iff_getElem.1 hm
   exact hs i hi (by rw[z'e,z'b hi,z'L,he])
  rw[hno]
  repeat' first|refine vs T rfl fun K hK=>?_;(try simp (disch:=omega) only[go_sem,Nat.reduceBEq,z'k]);(refine hK _ _ ?_;clear hK K)|refine st rfl ?_|refine sc rfl ?_|refine nl ?_|exact z'n T (z'a _) ⟨rfl,rfl⟩|with_reducible refine z'j (fun hc=>?_) (fun hc=>?_)<;>(try simp only[decide_eq_true_eq,decide_eq_false_iff_not,z'm]at hc)<;>(try(exfalso;omega))
 have hm:=x'w (d:=(0:Int)) hlt
 generalize hx:l.getD k 0=x at hm
 by_cases he:x=a
 ·subst he
  rw[decide_eq_true hm]
  repeat' first|refine vs T rfl fun K hK=>?_;(try simp (disch:=omega) only[go_sem,Nat.reduceBEq,y'w,hx,z'k,z'f]);(first|refine hK _ _ ?_;clear hK K|refine⟨?_,hK _ _ ?_⟩<;>clear hK K;focus(try omega))|refine st rfl ?_|refine sc rfl ?_|refine nl ?_|exact z'n T (z'a _) ⟨rfl,rfl⟩|with_reducible refine z'j (fun hc=>?_) (fun hc=>?_)<;>(try simp only[decide_eq_true_eq,decide_eq_false_iff_not,z'm]at hc)<;>(try(exfalso;omega))
 ·have e1:(x == a)=false:=by simpa using he
  repeat' first|refine vs T rfl fun K hK=>?_;(try simp (disch:=omega) only[go_sem,Nat.reduceBEq,y'w,hx,e1,z'k,w64,z'f]);(first|refine hK _ _ ?_;clear hK K|refine⟨?_,hK _ _ ?_⟩<;>clear hK K;focus(try omega))|refine st rfl ?_|refine sc rfl ?_|refine nl ?_|with_reducible refine z'j (fun hc=>?_) (fun hc=>?_)<;>(try simp only[decide_eq_true_eq,decide_eq_false_iff_not,z'm]at hc)<;>(try(exfalso;omega))
  refine⟨⟨k+1,hlt,x'm hs (by rw[hx];exact he)⟩,Weak.sub ?_,by dsimp only;omega⟩
  simp[sub,upd]
def Zcg (part:List Int) (e:Ed):Bool:=decide (e.1∈part)&&decide (e.2.2∈part)
def Ze4 (g:Cs) (part:List Int):Bool:=(x'S g).any (Zcg part)
def ZdY (part:List Int) (a:Int) (e:Ed):Bool:=(e.2.1 == a)&&Zcg part e
def v'j (g:Cs) (part:List Int) (a:Int):Bool:=(x'S g).any (ZdY part a)
theorem ZeM (g:Cs) (hg:OkG g) (hR:w'j g=true) (part:List Int) (hp:part.length≤1000000):Pure Tryz.prog 90 [.agg (csC g),z'C part] (bD (Ze4 g part)):=by
 have c0:=Zby g hg
 have hlen:=Za3 hg hR
 unfold Ze4
 refine Fun.of T [.tmp 4] Tryz.func90 rfl Tryz.ntmps90 Tryz.results90 rfl (by kernel_rfl) ?_
 repeat' first|refine vb (t:=32) rfl rfl rfl rfl ?_|refine vs T rfl fun K hK=>?_;(try simp (disch:=omega) only[go_sem,Nat.reduceBEq,Nat.reduceAdd,Nat.reduceLeDiff]);(first|refine hK _ _ ?_;clear hK K|refine Op1.callp rfl rfl (c0) rfl ?_;refine hK _ _ ?_;clear hK K)|refine st rfl ?_|refine nl ?_
 generalize x'S g=L at*
 refine VC.loop {k:Nat//k≤L.length∧ ∀i,i<k→Zcg part (L.getD i (0,0,0))=false} (fun x=>⟨z'J [(1,z'C part),(5,Zaw L),(6,iD (x.1:Nat))],[]⟩) (fun x=>L.length-x.1) ⟨0,by omega,fun i hi=>by omega⟩ ?_ ?_
 ·refine Weak.sub ?_
  simp[sub,upd]
 rintro⟨k,hk,hs⟩
 dsimp only
 rcases z'g k L.length with hlt|hge
 case inr=>
  obtain rfl:k=L.length:=by omega
  rw[Zho hs]
  repeat' first|refine vs T rfl fun K hK=>?_;(try simp (disch:=omega) only[go_sem,Nat.reduceBEq,x'h]);(refine hK _ _ ?_;clear hK K)|refine st rfl ?_|refine sc rfl ?_|refine nl ?_|exact z'n T (z'a _) ⟨rfl,rfl⟩|with_reducible refine z'j (fun hc=>?_) (fun hc=>?_)<;>(try simp only[decide_eq_true_eq,decide_eq_false_iff_not,z'm]at hc)<;>(try(exfalso;omega))
 have c1:=ZhF part hp (L.getD k (0,0,0)).1
 have c2:=ZhF part hp (L.getD k (0,0,0)).2.2
 cases hv:Zcg part (L.getD k (0,0,0))with
 |true=>
  rw[Zko hlt hv]
  simp only[Zcg,z'i]at hv
  rw[hv.1]at c1
  rw[hv.2]at c2
  repeat' first|refine vs T rfl fun K hK=>?_;(try simp (disch:=omega) only[go_sem,Nat.reduceBEq,w'D,edR,x'h,z'f]);(first|refine hK _ _ ?_;clear hK K|refine⟨?_,hK _ _ ?_⟩<;>clear hK K;focus(try omega)|refine Op1.callp rfl rfl (c1) rfl ?_;refine hK _ _ ?_;clear hK K|refine Op1.callp rfl rfl (c2) rfl ?_;refine hK _ _ ?_;clear hK K)|refine st rfl ?_|refine sc rfl ?_|refine nl ?_|refine gs rfl rfl ?_|exact z'n T (z'a _) ⟨rfl,rfl⟩|with_reducible refine z'j (fun hc=>?_) (fun hc=>?_)<;>(try simp only[decide_eq_true_eq,decide_eq_false_iff_not,z'm]at hc)<;>(try(exfalso;omega))
 |false=>
  have hs':=x'm hs hv
  simp only[Zcg,x'Z]at hv
  cases h1:decide ((L.getD k (0,0,0)).1∈part)with
  |false=>
   rw[h1]at c1
   repeat' first|refine vs T rfl fun K hK=>?_;(try simp (disch:=omega) only[go_sem,Nat.reduceBEq,w'D,edR,x'h,w64,z'f]);(first|refine hK _ _ ?_;clear hK K|refine⟨?_,hK _ _ ?_⟩<;>clear hK K;focus(try omega)|refine Op1.callp rfl rfl (c1) rfl ?_;refine hK _ _ ?_;clear hK K)|refine st rfl ?_|refine sc rfl ?_|refine nl ?_|refine gs rfl rfl ?_|with_reducible refine z'j (fun hc=>?_) (fun hc=>?_)<;>(try simp only[decide_eq_true_eq,decide_eq_false_iff_not,z'm]at hc)<;>(try(exfalso;omega))
   refine⟨⟨k+1,hlt,hs'⟩,Weak.sub ?_,by dsimp only;omega⟩
   simp[sub,upd]
  |true=>
   rw[h1]at c1
   rw[hv.resolve_left (by rw[h1];decide)]at c2
   repeat' first|refine vs T rfl fun K hK=>?_;(try simp (disch:=omega) only[go_sem,Nat.reduceBEq,w'D,edR,x'h,w64,z'f]);(first|refine hK _ _ ?_;clear hK K|refine⟨?_,hK _ _ ?_⟩<;>clear hK K;focus(try omega)|refine Op1.callp rfl rfl (c1) rfl ?_;refine hK _ _ ?_;clear hK K|refine Op1.callp rfl rfl (c2) rfl ?_;refine hK _ _ ?_;clear hK K)|refine st rfl ?_|refine sc rfl ?_|refine nl ?_|refine gs rfl rfl ?_|with_reducible refine z'j (fun hc=>?_) (fun hc=>?_)<;>(try simp only[decide_eq_true_eq,decide_eq_false_iff_not,z'm]at hc)<;>(try(exfalso;omega))
   refine⟨⟨k+1,hlt,hs'⟩,Weak.sub ?_,by dsimp only;omega⟩
   simp[sub,upd]
theorem Zgw (g:Cs) (hg:OkG g) (hR:w'j g=true) (part:List Int) (hp:part.length≤1000000) (a:Int):Pure Tryz.prog 89 [.agg (csC g),z'C part,iD a] (bD (v'j g part a)):=by
 have c0:=Zby g hg
 have hlen:=Za3 hg hR
 unfold v'j
 refine Fun.of T [.tmp 6] Tryz.func89 rfl Tryz.ntmps89 Tryz.results89 rfl (by kernel_rfl) ?_
 repeat' first|refine vb (t:=32) rfl rfl rfl rfl ?_|refine vs T rfl fun K hK=>?_;(try simp (disch:=omega) only[go_sem,Nat.reduceBEq,Nat.reduceAdd,Nat.reduceLeDiff]);(first|refine hK _ _ ?_;clear hK K|refine Op1.callp rfl rfl (c0) rfl ?_;refine hK _ _ ?_;clear hK K)|refine st rfl ?_|refine nl ?_
 generalize x'S g=L at*
 refine VC.loop {k:Nat//k≤L.length∧ ∀i,i<k→ZdY part a (L.getD i (0,0,0))=false} (fun x=>⟨z'J [(1,z'C part),(2,iD a),(7,Zaw L),(8,iD (x.1:Nat))],[]⟩) (fun x=>L.length-x.1) ⟨0,by omega,fun i hi=>by omega⟩ ?_ ?_
 ·refine Weak.sub ?_
  simp[sub,upd]
 rintro⟨k,hk,hs⟩
 dsimp only
 rcases z'g k L.length with hlt|hge
 case inr=>
  obtain rfl:k=L.length:=by omega
  rw[Zho hs]
  repeat' first|refine vs T rfl fun K hK=>?_;(try simp (disch:=omega) only[go_sem,Nat.reduceBEq,x'h]);(refine hK _ _ ?_;clear hK K)|refine st rfl ?_|refine sc rfl ?_|refine nl ?_|exact z'n T (z'a _) ⟨rfl,rfl⟩|with_reducible refine z'j (fun hc=>?_) (fun hc=>?_)<;>(try simp only[decide_eq_true_eq,decide_eq_false_iff_not,z'm]at hc)<;>(try(exfalso;omega))
 have c1:=ZhG part hp (L.getD k (0,0,0)).1
 have c2:=ZhG part hp (L.getD k (0,0,0)).2.2
 cases hv:ZdY part a (L.getD k (0,0,0))with
 |true=>
  rw[Zko hlt hv]
  simp only[ZdY,Zcg,z'i]at hv
  obtain⟨h0,h1,h2⟩:=hv
  rw[h1]at c1
  rw[h2]at c2
  repeat' first|refine vs T rfl fun K hK=>?_;(try simp (disch:=omega) only[go_sem,Nat.reduceBEq,w'D,edR,x'h,h0,z'f]);(first|refine hK _ _ ?_;clear hK K|refine⟨?_,hK _ _ ?_⟩<;>clear hK K;focus(try omega)|refine Op1.callp rfl rfl (c1) rfl ?_;refine hK _ _ ?_;clear hK K|refine Op1.callp rfl rfl (c2) rfl ?_;refine hK _ _ ?_;clear hK K)|refine st rfl ?_|refine sc rfl ?_|refine nl ?_|refine gs rfl rfl ?_|exact z'n T (z'a _) ⟨rfl,rfl⟩|with_reducible refine z'j (fun hc=>?_) (fun hc=>?_)<;>(try simp only[decide_eq_true_eq,decide_eq_false_iff_not,z'm]at hc)<;>(try(exfalso;omega))
 |false=>
  have hs':=x'm hs hv
  cases h0:((L.getD k (0,0,0)).2.1 == a)with
  |false=>
   repeat' first|refine vs T rfl fun K hK=>?_;(try simp (disch:=omega) only[go_sem,Nat.reduceBEq,w'D,edR,x'h,h0,w64,z'f]);(first|refine hK _ _ ?_;clear hK K|refine⟨?_,hK _ _ ?_⟩<;>clear hK K;focus(try omega))|refine st rfl ?_|refine sc rfl ?_|refine nl ?_|refine gs rfl rfl ?_|with_reducible refine z'j (fun hc=>?_) (fun hc=>?_)<;>(try simp only[decide_eq_true_eq,decide_eq_false_iff_not,z'm]at hc)<;>(try(exfalso;omega))
   refine⟨⟨k+1,hlt,hs'⟩,Weak.sub ?_,by dsimp only;omega⟩
   simp[sub,upd]
  |true=>
  simp only[ZdY,Zcg,h0,z'W,x'Z]at hv
  cases h1:decide ((L.getD k (0,0,0)).1∈part)with
  |false=>
   rw[h1]at c1
   repeat' first|refine vs T rfl fun K hK=>?_;(try simp (disch:=omega) only[go_sem,Nat.reduceBEq,w'D,edR,x'h,h0,w64,z'f]);(first|refine hK _ _ ?_;clear hK K|refine⟨?_,hK _ _ ?_⟩<;>clear hK K;focus(try omega)|refine Op1.callp rfl rfl (c1) rfl ?_;refine hK _ _ ?_;clear hK K)|refine st rfl ?_|refine sc rfl ?_|refine nl ?_|refine gs rfl rfl ?_|with_reducible refine z'j (fun hc=>?_) (fun hc=>?_)<;>(try simp only[decide_eq_true_eq,decide_eq_false_iff_not,z'm]at hc)<;>(try(exfalso;omega))
   refine⟨⟨k+1,hlt,hs'⟩,Weak.sub ?_,by dsimp only;omega⟩
   simp[sub,upd]
  |true=>
   rw[h1]at c1
   rw[hv.resolve_left (by rw[h1];decide)]at c2
   repeat' first|refine vs T rfl fun K hK=>?_;(try simp (disch:=omega) only[go_sem,Nat.reduceBEq,w'D,edR,x'h,h0,w64,z'f]);(first|refine hK _ _ ?_;clear hK K|refine⟨?_,hK _ _ ?_⟩<;>clear hK K;focus(try omega)|refine Op1.callp rfl rfl (c1) rfl ?_;refine hK _ _ ?_;clear hK K|refine Op1.callp rfl rfl (c2) rfl ?_;refine hK _ _ ?_;clear hK K)|refine st rfl ?_|refine sc rfl ?_|refine nl ?_|refine gs rfl rfl ?_|with_reducible refine z'j (fun hc=>?_) (fun hc=>?_)<;>(try simp only[decide_eq_true_eq,decide_eq_false_iff_not,z'm]at hc)<;>(try(exfalso;omega))
   refine⟨⟨k+1,hlt,hs'⟩,Weak.sub ?_,by dsimp only;omega⟩
   simp[sub,upd]
def enA (en:List (List Bool)) (a:Nat) (i:Int):Bool:=(en.getD i.toNat []).getD a false
def cnW (en:List (List Bool)) (part:List Int) (a k:Nat):Nat:=(part.take k).countP (enA en a)
structure ZoU (en:List (List Bool)) (ag:Nat):Prop where
 len:en.length≤1000
 row: ∀r,r∈en→r.length=ag
 ag:ag≤100
def InR (en:List (List Bool)) (part:List Int):Prop:=part.length≤1000000∧ ∀i,i∈part→0≤i∧i<en.length
theorem ZlY {en:List (List Bool)} {part:List Int} {a k:Nat} (h:k<part.length):cnW en part a (k+1)=cnW en part a k+(enA en a (part.getD k 0)).toNat:=by
 unfold cnW
 rw[Zf3 (d:=0) h,w'W,List.countP_singleton]
 cases enA en a (part.getD k 0)<;>rfl
theorem Zkt (en:List (List Bool)) (part:List Int) (a k:Nat):cnW en part a k≤k:=by
 unfold cnW
 exact y'z w'w (by rw[z'F];omega)
theorem ZjL (en:List (List Bool)) {ag:Nat} (hE:ZoU en ag) (part:List Int) (hp:InR en part) (a:Nat) (ha:a<ag):Pure Tryz.prog 88 [.sl false 1 (v'3 en),z'C part,iD (a:Nat)] (iD (cnW en part a part.length:Nat)):=by
 have hpl:=hp.1
 refine Fun.of T [.tmp 6] Tryz.func88 rfl Tryz.ntmps88 Tryz.results88 rfl (by kernel_rfl) ?_
 repeat' first|refine vs T rfl fun K hK=>?_;(try simp (disch:=omega) only[go_sem,Nat.reduceAdd]);(refine hK _ _ ?_;clear hK K)|refine st rfl ?_|refine nl ?_
 refine VC.loop {k:Nat//k≤part.length} (fun x=>⟨z'J [(0,.sl false 1 (v'3 en)),(1,z'C part),(2,iD (a:Nat)),(7,iD (cnW en part a x.1:Nat)),(8,iD (x.1:Nat))],[]⟩) (fun x=>part.length-x.1) ⟨0,by omega⟩ ?_ ?_
 ·refine Weak.sub ?_
  simp[sub,upd,cnW]
 rintro⟨k,hk⟩
 dsimp only
 rcases z'g k part.length with hlt|hge
 case inr=>
  obtain rfl:k=part.length:=by omega
  repeat' first|refine vs T rfl fun K hK=>?_;(try simp (disch:=omega) only[go_sem,Nat.reduceBEq,z'k]);(refine hK _ _ ?_;clear hK K)|refine st rfl ?_|refine sc rfl ?_|refine nl ?_|exact z'n T (z'a _) ⟨rfl,rfl⟩|with_reducible refine z'j (fun hc=>?_) (fun hc=>?_)<;>(try simp only[decide_eq_true_eq,decide_eq_false_iff_not,z'm]at hc)<;>(try(exfalso;omega))
 have hi:=hp.2 _ (x'w (d:=(0:Int)) hlt)
 have hs:=ZlY (en:=en) (a:=a) hlt
 have hle:=Zkt en part a k
 have hrow:(en.getD (part.getD k 0).toNat []).length=ag:=hE.row _ (x'w (by omega))
 unfold enA at hs
 generalize hx:part.getD k 0=x at*
 generalize hr:en.getD x.toNat []=r at*
 generalize hv:r.getD a false=v at*
 repeat' first|refine vs T rfl fun K hK=>?_;(try simp (disch:=omega) only[go_sem,Nat.reduceBEq,y'w,Zcn,v'v,hx,hr,hv,z'k,w64,z'f]);(first|refine hK _ _ ?_;clear hK K|refine⟨?_,hK _ _ ?_⟩<;>clear hK K;focus(try omega))|refine st rfl ?_|refine sc rfl ?_|refine nl ?_|with_reducible refine z'j (fun hc=>?_) (fun hc=>?_)<;>(try simp only[decide_eq_true_eq,decide_eq_false_iff_not,z'm]at hc)<;>(try(exfalso;omega))
 all_goals
  rename_i hc
  subst hc
  simp only[Bool.toNat_true,Bool.toNat_false,v'g]at hs
  refine⟨⟨k+1,hlt⟩,Weak.sub ?_,by dsimp only;omega⟩
  simp[sub,upd,hs]
def Zen (g:Cs) (en:List (List Bool)) (md:Int) (part:List Int) (a:Nat):Bool:= !v'j g part (a:Nat)&&(((md == 1)&&((cnW en part a part.length:Nat) == (part.length:Int)))||((md == 2)&&decide (((cnW en part a part.length:Nat):Int)>0)))
def Zaq (g:Cs) (en:List (List Bool)) (ag:Nat) (md:Int) (part:List Int):Bool:= !(List.range ag).any (Zen g en md part)&&Ze4 g part
structure Zau (g:Cs) (en:List (List Bool)) (ag:Nat):Prop where
 ok:OkG g
 right:w'j g=true
 nodes:z'O g=en.length
 tab:ZoU en ag
 ed: ∀e,e∈x'S g→e.2.1<ag∧enA en e.2.1.toNat e.1=true
abbrev v'l (en:List (List Bool)):D:= .sl false 1 (v'3 en)
theorem Zd7 {g:Cs} {en:List (List Bool)} {ag:Nat} (hT:Zau g en ag) (md:Int) (part:List Int) (hp:InR en part):Pure Tryz.prog 53 [.agg (csC g),v'l en,iD (ag:Nat),iD md,z'C part] (bD (Zaq g en ag md part)):=by
 have cy:=ZeM g hT.ok hT.right part hp.1
 have hag:=hT.tab.ag
 refine Fun.of T [.tmp 10] Tryz.func53 rfl Tryz.ntmps53 Tryz.results53 rfl (by kernel_rfl) ?_
 repeat' first|refine vb (t:=32) rfl rfl rfl rfl ?_|refine vs T rfl fun K hK=>?_;(try simp (disch:=omega) only[go_sem,Nat.reduceAdd]);(refine hK _ _ ?_;clear hK K)|refine st rfl ?_|refine nl ?_
 refine VC.loop {a:Nat//a≤ag∧ ∀i,i<a→Zen g en md part i=false} (fun x=>⟨z'J [(1,v'l en),(2,iD (ag:Nat)),(3,iD md),(4,z'C part),(5,.pt (csC g)),(11,iD (x.1:Nat))],[]⟩) (fun x=>ag-x.1) ⟨0,by omega,fun i hi=>by omega⟩ ?_ ?_
 ·refine Weak.sub ?_
  simp[sub,upd]
 rintro⟨a,ha,hs⟩
 dsimp only
 rcases z'g a ag with hlt|hge
 case inr=>
  obtain rfl:a=ag:=by omega
  have h0:(List.range a).any (Zen g en md part)=false:=by
   rw[List.any_eq_false]
   intro i hi
   rw[hs i (z'G.1 hi)];decide
  have:Zaq g en a md part=Ze4 g part:=by unfold Zaq;rw[h0];rfl
  rw[this]
  repeat' first|refine vs T rfl fun K hK=>?_;(try simp (disch:=omega) only[go_sem,Nat.reduceBEq,Nat.reduceAdd,Nat.reduceLeDiff]);(first|refine hK _ _ ?_;clear hK K|refine Op1.callp rfl rfl (cy) rfl ?_;refine hK _ _ ?_;clear hK K)|refine st rfl ?_|refine sc rfl ?_|refine nl ?_|exact z'n T (z'a _) ⟨rfl,rfl⟩|with_reducible refine z'j (fun hc=>?_) (fun hc=>?_)<;>(try simp only[decide_eq_true_eq,decide_eq_false_iff_not,z'm]at hc)<;>(try(exfalso;omega))
 have c1:=ZjL en hT.tab part hp a hlt
 have c2:=Zgw g hT.ok hT.right part hp.1 (a:Nat)
 have hcl:=Zkt en part a part.length
 have hpl:=hp.1
 cases hv:Zen g en md part a with
 |true=>
  have h0:Zaq g en ag md part=false:=by
   unfold Zaq
   rw[List.any_eq_true.2 ⟨a,z'G.2 hlt,hv⟩];rfl
  rw[h0]
  unfold Zen at hv
  generalize v'j g part (a:Nat)=b at*
  generalize cnW en part a part.length=n at*
  repeat' first|refine vs T rfl fun K hK=>?_;(try simp (disch:=omega) only[go_sem,Nat.reduceBEq,Nat.reduceAdd,Nat.reduceLeDiff,z'k]);(first|refine hK _ _ ?_;clear hK K|refine Op1.callp rfl rfl (c1) rfl ?_;refine hK _ _ ?_;clear hK K|refine Op1.callp rfl rfl (c2) rfl ?_;refine hK _ _ ?_;clear hK K)|refine st rfl ?_|refine sc rfl ?_|refine nl ?_|refine gs rfl rfl ?_|refine gu rfl rfl ?_|with_reducible refine z'j (fun hc=>?_) (fun hc=>?_)<;>(try simp only[decide_eq_true_eq,decide_eq_false_iff_not,beq_iff_eq,beq_eq_false_iff_ne,ne_eq,z'N,z'R,gt_iff_lt,z'm]at hc)<;>(try(exfalso;omega))
  all_goals first
   |exact z'n T (z'a _) ⟨rfl,rfl⟩
   |(exfalso;simp_all;done)
   |(exfalso;simp_all;omega)
 |false=>
  have hs':=x'm hs hv
  unfold Zen at hv
  generalize v'j g part (a:Nat)=b at*
  generalize cnW en part a part.length=n at*
  repeat' first|refine vs T rfl fun K hK=>?_;(try simp (disch:=omega) only[go_sem,Nat.reduceBEq,Nat.reduceAdd,Nat.reduceLeDiff,z'k,w64]);(first|refine hK _ _ ?_;clear hK K|refine Op1.callp rfl rfl (c1) rfl ?_;refine hK _ _ ?_;clear hK K|refine Op1.callp rfl rfl (c2) rfl ?_;refine hK _ _ ?_;clear hK K)|refine st rfl ?_|refine sc rfl ?_|refine nl ?_|refine gs rfl rfl ?_|refine gu rfl rfl ?_|with_reducible refine z'j (fun hc=>?_) (fun hc=>?_)<;>(try simp only[decide_eq_true_eq,decide_eq_false_iff_not,beq_iff_eq,beq_eq_false_iff_ne,ne_eq,z'N,z'R,gt_iff_lt,z'm]at hc)<;>(try(exfalso;omega))
  all_goals first
   |(refine⟨⟨a+1,hlt,hs'⟩,Weak.sub ?_,by dsimp only;omega⟩;simp[sub,upd];done)
   |(exfalso;simp_all;done)
   |(exfalso;simp_all;omega)
theorem ZdG {g:Cs} {en:List (List Bool)} {ag:Nat} (hT:Zau g en ag):Pure Tryz.prog 51 [.agg (csC g),v'l en,iD (ag:Nat)] (bD true):=by
 have c1:=Zbq g hT.ok
 rw[hT.right]at c1
 have c2:=ZaL g hT.ok
 rw[hT.nodes]at c2
 have c3:=Zby g hT.ok
 have hag:=hT.tab.ag
 have hen:=hT.tab.len
 have hal:=Za3 hT.ok hT.right
 have hok:=(ZaG (x'G.1 hT.right)).1
 have hed:=hT.ed
 have hnd:=hT.nodes
 refine Fun.of T [.tmp 6] Tryz.func51 rfl Tryz.ntmps51 Tryz.results51 rfl (by kernel_rfl) ?_
 repeat' first|refine vb (t:=32) rfl rfl rfl rfl ?_|refine vs T rfl fun K hK=>?_;(try simp (disch:=omega) only[go_sem,Nat.reduceBEq,Nat.reduceAdd,Nat.reduceLeDiff,w'a,bne_self_eq_false]);(first|refine hK _ _ ?_;clear hK K|refine Op1.callp rfl rfl (c1) rfl ?_;refine hK _ _ ?_;clear hK K|refine Op1.callp rfl rfl (c2) rfl ?_;refine hK _ _ ?_;clear hK K)|refine st rfl ?_|refine sc rfl ?_|refine nl ?_|refine gs rfl rfl ?_|with_reducible refine z'j (fun hc=>?_) (fun hc=>?_)<;>(try simp only[decide_eq_true_eq,decide_eq_false_iff_not,gt_iff_lt,z'm]at hc)<;>(try(exfalso;omega))
 refine VC.loop {k:Nat//k≤en.length} (fun x=>⟨z'J [(1,v'l en),(2,iD (ag:Nat)),(3,.pt (csC g)),(7,iD (x.1:Nat))],[]⟩) (fun x=>en.length-x.1) ⟨0,by omega⟩ ?_ ?_
 ·refine Weak.sub ?_
  simp[sub,upd]
 rintro⟨k,hk⟩
 dsimp only
 rcases z'g k en.length with hlt|hge
 ·have hrow:=hT.tab.row _ (x'w (d:=([]:List Bool)) hlt)
  repeat' first|refine vs T rfl fun K hK=>?_;(try simp (disch:=omega) only[go_sem,Nat.reduceBEq,Zcn,w'a,w'5,hrow,bne_self_eq_false,w64,z'f]);(first|refine hK _ _ ?_;clear hK K|refine⟨?_,hK _ _ ?_⟩<;>clear hK K;focus(try omega))|refine st rfl ?_|refine sc rfl ?_|refine nl ?_|with_reducible refine z'j (fun hc=>?_) (fun hc=>?_)<;>(try simp only[decide_eq_true_eq,decide_eq_false_iff_not,z'm]at hc)<;>(try(exfalso;omega))
  refine⟨⟨k+1,hlt⟩,Weak.sub ?_,by dsimp only;omega⟩
  simp[sub,upd]
 obtain rfl:k=en.length:=by omega
 repeat' first|refine vs T rfl fun K hK=>?_;(try simp (disch:=omega) only[go_sem,Nat.reduceBEq,Nat.reduceAdd,Nat.reduceLeDiff,w'a]);(first|refine hK _ _ ?_;clear hK K|refine Op1.callp rfl rfl (c3) rfl ?_;refine hK _ _ ?_;clear hK K)|refine st rfl ?_|refine sc rfl ?_|refine nl ?_|with_reducible refine z'j (fun hc=>?_) (fun hc=>?_)<;>(try simp only[decide_eq_true_eq,decide_eq_false_iff_not,z'm]at hc)<;>(try(exfalso;omega))
 generalize x'S g=L at*
 refine VC.loop {k:Nat//k≤L.length} (fun x=>⟨z'J [(1,v'l en),(2,iD (ag:Nat)),(8,Zaw L),(9,iD (x.1:Nat))],[]⟩) (fun x=>L.length-x.1) ⟨0,by omega⟩ ?_ ?_
 ·refine Weak.sub ?_
  simp[sub,upd]
 rintro⟨k,hk⟩
 dsimp only
 rcases z'g k L.length with hlt|hge
 ·have hm:=x'w (d:=((0,0,0):Ed)) hlt
  obtain⟨e1,e2⟩:=hed _ hm
  have e3:=hok _ hm
  unfold enA at e2
  have hrow:=hT.tab.row _ (x'w (d:=([]:List Bool)) (show(L.getD k (0,0,0)).1.toNat<en.length by omega))
  repeat' first|refine dr (id:=12) T 21 (by kernel_rfl) ?_|refine gn ?_|(first|apply VCg.step T rfl rfl|apply exF);focus((try simp (disch:=omega) only[go_sem,Nat.reduceBEq,w'D,edR,Zcn,z'f]);(first|exact rfl|refine⟨?_,rfl⟩;try omega))|refine VCg.gstep T rfl rfl rfl rfl ?_;try simp only[GB]|refine vs T rfl fun K hK=>?_;(try simp (disch:=omega) only[go_sem,Nat.reduceBEq,v'v,x'h,hrow,e2,w64]);(first|refine hK _ _ ?_;clear hK K|refine⟨?_,hK _ _ ?_⟩<;>clear hK K;focus(try omega))|refine st rfl ?_|refine sc rfl ?_|refine nl ?_|refine gs rfl rfl ?_|with_reducible refine z'j (fun hc=>?_) (fun hc=>?_)<;>(try simp only[decide_eq_true_eq,decide_eq_false_iff_not,ge_iff_le,y'e,z'm]at hc)<;>(try(exfalso;omega))
  refine⟨⟨k+1,hlt⟩,Weak.sub ?_,by dsimp only;omega⟩
  simp[sub,upd]
 obtain rfl:k=L.length:=by omega
 repeat' first|refine vs T rfl fun K hK=>?_;(try simp (disch:=omega) only[go_sem,Nat.reduceBEq,x'h]);(refine hK _ _ ?_;clear hK K)|refine st rfl ?_|refine sc rfl ?_|refine nl ?_|exact z'n T (z'a _) ⟨rfl,rfl⟩|with_reducible refine z'j (fun hc=>?_) (fun hc=>?_)<;>(try simp only[decide_eq_true_eq,decide_eq_false_iff_not,z'm]at hc)<;>(try(exfalso;omega))
end Go.Proofs.YtfneeacgkdhldaaGreat
