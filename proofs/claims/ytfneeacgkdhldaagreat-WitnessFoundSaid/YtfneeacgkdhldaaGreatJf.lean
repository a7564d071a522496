/- Contracts: whether a part is one; a part without some nodes; what is found. No condition. -/
import Derived.Test.YtfneeacgkdhldaaGreatJc
namespace Go.Proofs.YtfneeacgkdhldaaGreat
set_option maxHeartbeats 16000000
set_option linter.unusedSimpArgs false
set_option linter.unusedVariables false
set_option maxRecDepth 20000
open Go Go.Proofs Go.Vc
attribute [local irreducible] y'5 VCg VCw VCx
def wiK (n:Nat) (part:List Int) (k:Nat):List Bool:=(List.range n).map fun(i:Nat)=>decide ((i:Int)∈part.take k)
abbrev wiF (n:Nat) (part:List Int):List Bool:=wiK n part part.length
theorem w'0 (n:Nat) (part:List Int) (k:Nat):(wiK n part k).length=n:=by simp[wiK]
theorem ZpP {n:Nat} {part:List Int} {k i:Nat} (h:i<n):(wiK n part k).getD i false=decide ((i:Int)∈part.take k):=by simp[wiK,z'e,h]
theorem ZcA {n:Nat} {part:List Int} {i:Nat} (h:i<n):(wiF n part).getD i false=decide ((i:Int)∈part):=by rw[ZpP h,z'X]
theorem Zkd (n:Nat) (part:List Int):wiK n part 0=List.replicate n false:=by
 unfold wiK
 refine List.ext_getElem (by simp) fun i h1 h2=>?_
 simp
theorem Zgt {n:Nat} {part:List Int} {k:Nat} (hk:k<part.length) (hx:0≤part.getD k 0∧part.getD k 0<(n:Int)):((wiK n part k).map bD).set (part.getD k 0).toNat (bD true)=(wiK n part (k+1)).map bD:=by
 rw[←y'n]
 congr 1
 refine List.ext_getElem (by simp[wiK]) fun i h1 h2=>?_
 rw[List.getElem_set]
 have hi:i<n:=by simpa[wiK]using h2
 have e2:(wiK n part (k+1))[i]=decide ((i:Int)∈part.take (k+1)):=by simp[wiK]
 have e1: ∀h,(wiK n part k)[i]'h=decide ((i:Int)∈part.take k):=fun h=>by simp[wiK]
 rw[e2,Zf3 (d:=0) hk]
 split
 ·rename_i he
  symm
  rw[decide_eq_true_eq,y'g]
  exact .inr (by rw[y'E];omega)
 ·rename_i he
  rw[e1]
  refine decide_eq_decide.2 ?_
  rw[y'g,y'E]
  constructor
  ·exact .inl
  ·rintro(h|h)
   ·exact h
   ·omega
structure Zdj (g:Cs) (en:List (List Bool)) (ag:Nat) (md:Int) (part:List Int):Prop where
 mode:md=1∨md=2
 inr:InR en part
 ne:part≠[]
 rch: ∀x y,x∈part→y∈part→Rch (x'M g (wiF en.length part)) (fun z=>z=x) y
 fair:Zaq g en ag md part=true
theorem ZnN {l:List Ed} {n:Nat} {q:List Int} {part:List Int} (hq:PrO l n q) (hp: ∀i,i∈part→0≤i∧i<(n:Int)) (h1:(ZaN q (wiF n part)).length=1):part≠[]∧ ∀x y,x∈part→y∈part→Mut l x y:=by
 obtain⟨nx,hq⟩:=hq
 have hlen:=hq.len
 have hle:=hq.le
 have hmem: ∀(i:Nat),(i:Int)∈part→ ∃p,p<n∧q.getD i 0=(p:Int)∧(i:Int)∈Zan q (wiF n part) p∧Zan q (wiF n part) p∈ZaN q (wiF n part):=by
  intro i hi
  have hin:=hp _ hi
  have hiq:=hq.in_ i (by omega)
  have hv:inP q (wiF n part) (q.getD i 0).toNat i=true:=by
   unfold inP
   rw[ZcA (by omega),w'0,decide_eq_true (show(i:Int)<(n:Int) by omega),decide_eq_true hi,Int.toNat_of_nonneg hiq.1]
   simp
  have hm:(i:Int)∈Zan q (wiF n part) (q.getD i 0).toNat:=z'y.2 ⟨i,y'x.2 ⟨z'G.2 (by omega),hv⟩,rfl⟩
  refine⟨(q.getD i 0).toNat,by omega,by omega,hm,?_⟩
  refine y'x.2 ⟨z'y.2 ⟨_,z'G.2 (by omega),rfl⟩,?_⟩
  cases he:Zan q (wiF n part) (q.getD i 0).toNat with
  |nil=>rw[he]at hm;cases hm
  |cons a b=>rfl
 refine⟨?_,?_⟩
 ·rintro rfl
  have:ZaN q (wiF n [])=[]:=by
   unfold ZaN Zbl
   rw[x'B]
   intro x hx
   obtain⟨p,_,rfl⟩:=z'y.1 hx
   have:Zan q (wiF n []) p=[]:=by
    unfold Zan Zck
    rw[List.map_eq_nil_iff,x'B]
    intro i hi
    have hi:=z'G.1 hi
    unfold inP
    rw[ZcA (by omega)]
    simp
   rw[this];decide
  rw[this]at h1;cases h1
 ·intro x y hx hy
  have bx:=hp x hx
  have by_:=hp y hy
  obtain⟨i,rfl⟩: ∃i:Nat,x=(i:Int):=⟨x.toNat,by omega⟩
  obtain⟨j,rfl⟩: ∃j:Nat,y=(j:Int):=⟨y.toNat,by omega⟩
  obtain⟨p,p1,p2,p3,p4⟩:=hmem i hx
  obtain⟨p',q1,q2,q3,q4⟩:=hmem j hy
  have he:Zan q (wiF n part) p=Zan q (wiF n part) p':=by
   cases hg:ZaN q (wiF n part)with
   |nil=>rw[hg]at h1;cases h1
   |cons a r=>
    rw[hg]at h1 p4 q4
    have hr:r=[]:=z'2 (by simpa using h1)
    subst hr
    rw[y'E]at p4 q4
    rw[p4,q4]
  rw[he]at p3
  obtain⟨i',hi',e⟩:=z'y.1 p3
  have e:i'=i:=Int.ofNat.inj e
  subst e
  have hv:=(y'x.1 hi').2
  unfold inP at hv
  simp only[z'i,beq_iff_eq]at hv
  exact hq.eq i' j (by omega) (by omega) (by rw[hv.1,q2])
theorem ZkR {g:Cs} {en:List (List Bool)} {ag:Nat} (hT:Zau g en ag) (md:Int) (part:List Int) (hp:part.length≤1000000):Fun Tryz.prog 47 [.agg (csC g),v'l en,iD (ag:Nat),iD md,z'C part] [] false (fun d H'=> ∃b:Bool,(b=true→Zdj g en ag md part)∧d=bD b∧H'=[]):=by
 have c1:=ZdG hT
 have hen:=hT.tab.len
 by_cases hmd:md=1∨md=2
 case neg=>
  refine Fun.of T [.tmp 10] Tryz.func47 rfl Tryz.ntmps47 Tryz.results47 rfl (by kernel_rfl) ?_
  repeat' first|refine vb (t:=32) rfl rfl rfl rfl ?_|refine vs T rfl fun K hK=>?_;(try simp (disch:=omega) only[go_sem,Nat.reduceBEq,Nat.reduceAdd,Nat.reduceLeDiff]);(first|refine hK _ _ ?_;clear hK K|refine Op1.callp rfl rfl (c1) rfl ?_;refine hK _ _ ?_;clear hK K)|refine st rfl ?_|refine sc rfl ?_|refine nl ?_|refine gs rfl rfl ?_|with_reducible refine z'j (fun hc=>?_) (fun hc=>?_)<;>(try simp only[bne_iff_ne,bne_eq_false_iff_eq,ne_eq]at hc)<;>(try(exfalso;omega))
  exact z'n T (z'a _) ⟨false,fun h=>(by cases h),rfl,rfl⟩
 have hnd:=hT.nodes
 have hW:=fun(h: ∀i,i∈part→0≤i∧i<(en.length:Int))=>ZeX g hT.ok hT.right (by omega) (wiF en.length part) (by rw[w'0];omega)
 refine Fun.of T [.tmp 10] Tryz.func47 rfl Tryz.ntmps47 Tryz.results47 rfl (by kernel_rfl) ?_
 rcases hmd with hmd|hmd
 all_goals
  repeat' first|refine vb (t:=32) rfl rfl rfl rfl ?_|refine vs T rfl fun K hK=>?_;(try simp (disch:=omega) only[go_sem,Nat.reduceBEq,Nat.reduceAdd,Nat.reduceLeDiff,w'a]);(first|refine hK _ _ ?_;clear hK K|refine⟨?_,fun bq hbq=>?_⟩;rotate_left;(try simp only[HB]at hbq);refine hK _ _ ?_;all_goals clear hK K|refine Op1.callp rfl rfl (c1) rfl ?_;refine hK _ _ ?_;clear hK K)|refine st rfl ?_|refine sc rfl ?_|refine nl ?_|refine gs rfl rfl ?_|with_reducible refine z'j (fun hc=>?_) (fun hc=>?_)<;>(try simp only[bne_iff_ne,bne_eq_false_iff_eq,ne_eq]at hc)<;>(try(exfalso;omega))
  rotate_left
  ·exact⟨by omega,by omega,by omega⟩
  rw[Zdi]
  refine VC.loop {k:Nat//k≤part.length∧ ∀i,i<k→0≤part.getD i 0∧part.getD i 0<(en.length:Int)} (fun x=>⟨z'J [(1,v'l en),(2,iD (ag:Nat)),(3,iD md),(4,z'C part),(5,.pt (csC g)),(11,.gs (some (bq,en.length)) en.length),(12,iD (x.1:Nat))],[(bq,.cells 4 (en.length*1) ((wiK en.length part x.1).map bD))]⟩) (fun x=>part.length-x.1) ⟨0,z'M _,fun i hi=>by omega⟩ ?_ ?_
  ·refine z'v (by rw[Zkd]) ?_
   simp[sub,upd]
  rintro⟨k,hk,hs⟩
  dsimp only
  rcases z'g k part.length with hlt|hge
  ·by_cases hin:0≤part.getD k 0∧part.getD k 0<(en.length:Int)
   ·have hst:=Zgt hlt hin
    have hs':=x'm hs hin
    have hat:((wiK en.length part k).map bD)[(part.getD k 0).toNat]?=some (bD ((wiK en.length part k).getD (part.getD k 0).toNat false)):=by
     rw[y'c,w'7 (d:=false) (by rw[w'0];omega)];rfl
    generalize (wiK en.length part k).getD (part.getD k 0).toNat false=v at hat
    repeat' first|refine vs T rfl fun K hK=>?_;(try simp (disch:=omega) only[go_sem,Nat.reduceBEq,y'w,z'k,w'a,hat,w64,z'f,z'u]);(first|refine hK _ _ ?_;clear hK K|refine⟨?_,hK _ _ ?_⟩<;>clear hK K;focus(try omega))|refine st rfl ?_|refine sc rfl ?_|refine nl ?_|refine gs rfl rfl ?_|with_reducible refine z'j (fun hc=>?_) (fun hc=>?_)<;>(try simp only[decide_eq_true_eq,decide_eq_false_iff_not,ge_iff_le,y'e,z'm]at hc)<;>(try(exfalso;omega))
    ·exact z'n T (z'a _) ⟨false,fun h=>(by cases h),rfl,rfl⟩
    ·rw[w'0];omega
    ·refine⟨⟨k+1,hlt,hs'⟩,z'v ?_ ?_,by dsimp only;omega⟩
     ·dsimp only
      rw[←hst,z'u]
     ·simp[sub,upd]
   ·repeat' first|refine vs T rfl fun K hK=>?_;(try simp (disch:=omega) only[go_sem,Nat.reduceBEq,y'w,z'k,w'a,z'f,z'u]);(first|refine hK _ _ ?_;clear hK K|refine⟨?_,hK _ _ ?_⟩<;>clear hK K;focus(try omega))|refine st rfl ?_|refine sc rfl ?_|refine nl ?_|refine gs rfl rfl ?_|with_reducible refine z'j (fun hc=>?_) (fun hc=>?_)<;>(try simp only[decide_eq_true_eq,decide_eq_false_iff_not,ge_iff_le,y'e,z'm]at hc)<;>(try(exfalso;omega))
    all_goals exact z'n T (z'a _) ⟨false,fun h=>(by cases h),rfl,rfl⟩
  obtain rfl:k=part.length:=by omega
  have hin: ∀i,i∈part→0≤i∧i<(en.length:Int):=fun i hi=>by
   obtain⟨j,hj,rfl⟩:=List.getElem_of_mem hi
   have:=hs j hj
   rwa [z'e,z'b hj]at this
  have cW:=hW hin
  have cF:=Zd7 hT md part ⟨hp,hin⟩
  refine VC.weak (Weak.fzs (t:=11) (g:=some (bq,en.length)) (e:=4) (esz:=1) (rows:=bRs (wiF en.length part)) (X:=[]) (by rw[Zcd];exact y'K _) (by rw[w'5,w'0];rfl) (Zc4 _)) ?_
  repeat' first|refine vs T rfl fun K hK=>?_;(try simp (disch:=omega) only[go_sem,Nat.reduceBEq,Nat.reduceAdd,Nat.reduceLeDiff,y'm,z'k]);(first|refine hK _ _ ?_;clear hK K|refine Op1.callp rfl rfl (cF) rfl ?_;refine hK _ _ ?_;clear hK K|refine Op1.callx rfl rfl (cW) rfl (fun q hq=>?_);refine hK _ _ ?_;clear hK K)|refine st rfl ?_|refine sc rfl ?_|refine nl ?_|refine gs rfl rfl ?_|with_reducible refine z'j (fun hc=>?_) (fun hc=>?_)<;>(try simp only[decide_eq_true_eq,decide_eq_false_iff_not,beq_iff_eq,beq_eq_false_iff_ne,ne_eq,z'm]at hc)<;>(try(exfalso;omega))
  ·rw[hnd]at hq
   have hone:=ZnN hq hin (by omega)
   exact z'n T (z'a _) ⟨Zaq g en ag md part,fun h=>⟨by omega,⟨hp,hin⟩,hone.1,fun x y hx hy=>(hone.2 x y hx hy).1,h⟩,rfl,rfl⟩
  ·exact z'n T (z'a _) ⟨false,fun h=>(by cases h),rfl,rfl⟩
theorem Zha {o:List Bool} {i j:Nat}:(o.set i false).getD j false=(o.getD j false&& !decide (i=j)):=by
 rw[z'e,z'e,v'P]
 by_cases h:i=j
 ·subst h
  rw[if_pos rfl,decide_eq_true rfl]
  split<;>simp
 ·rw[if_neg h,decide_eq_false h]
  simp
structure LessO (g:Cs) (en:List (List Bool)) (part:List Int) (a:Nat) (o:List Bool):Prop where
 len:o.length=en.length
 sub: ∀i:Nat,o.getD i false=true→(i:Int)∈part
 out: ∀a':Nat,a'<a→v'j g part (a':Nat)=false→ ∀i,i∈part→enA en a' i=true→o.getD i.toNat false=false
theorem LessO.set {g:Cs} {en:List (List Bool)} {part:List Int} {a:Nat} {o:List Bool} (h:LessO g en part a o) (j:Nat):LessO g en part a (o.set j false):=by
 refine⟨by rw[y'U];exact h.len,fun i hi=>h.sub i ?_,fun a' ha hc i hi he=>?_⟩
 ·rw[Zha,z'i]at hi;exact hi.1
 ·rw[Zha,h.out a' ha hc i hi he];rfl
theorem Zk0 {g:Cs} {en:List (List Bool)} {ag:Nat} (hT:Zau g en ag) (part:List Int) (hp:InR en part):Fun Tryz.prog 91 [.agg (csC g),v'l en,iD (ag:Nat),z'C part] [] false (fun d H'=> ∃o:List Bool,LessO g en part ag o∧d=x'F o∧H'=[]):=by
 have hen:=hT.tab.len
 have hag:=hT.tab.ag
 have hpl:=hp.1
 have hin: ∀k,k<part.length→0≤part.getD k 0∧part.getD k 0<(en.length:Int):=fun k hk=>hp.2 _ (x'w hk)
 refine Fun.fzE ?_
 refine Fun.of T [.tmp 8] Tryz.func91 rfl Tryz.ntmps91 Tryz.results91 rfl (by kernel_rfl) ?_
 repeat' first|refine vb (t:=32) rfl rfl rfl rfl ?_|refine vs T rfl fun K hK=>?_;(try simp (disch:=omega) only[go_sem,Nat.reduceBEq,Nat.reduceAdd,w'a]);(first|refine hK _ _ ?_;clear hK K|refine⟨?_,fun bq hbq=>?_⟩;rotate_left;(try simp only[HB]at hbq);refine hK _ _ ?_;all_goals clear hK K)|refine st rfl ?_|refine nl ?_
 rotate_left
 ·exact⟨by omega,by omega,by omega⟩
 rw[Zdi]
 refine VC.loop {k:Nat//k≤part.length} (fun x=>⟨z'J [(1,v'l en),(2,iD (ag:Nat)),(3,z'C part),(4,.pt (csC g)),(9,.gs (some (bq,en.length)) en.length),(10,iD (x.1:Nat))],[(bq,.cells 4 (en.length*1) ((wiK en.length part x.1).map bD))]⟩) (fun x=>part.length-x.1) ⟨0,z'M _⟩ ?_ ?_
 ·refine z'v (by rw[Zkd]) ?_
  simp[sub,upd]
 rintro⟨k,hk⟩
 dsimp only
 rcases z'g k part.length with hlt|hge
 ·have hi:=hin k hlt
  have hst:=Zgt hlt hi
  repeat' first|refine vs T rfl fun K hK=>?_;(try simp (disch:=omega) only[go_sem,Nat.reduceBEq,y'w,z'k,w64,z'f,z'u]);(first|refine hK _ _ ?_;clear hK K|refine⟨?_,hK _ _ ?_⟩<;>clear hK K;focus(try omega))|refine st rfl ?_|refine sc rfl ?_|refine nl ?_|with_reducible refine z'j (fun hc=>?_) (fun hc=>?_)<;>(try simp only[decide_eq_true_eq,decide_eq_false_iff_not,z'm]at hc)<;>(try(exfalso;omega))
  ·rw[w'0];omega
  ·refine⟨⟨k+1,hlt⟩,z'v ?_ ?_,by dsimp only;omega⟩
   ·dsimp only
    rw[←hst,z'u]
   ·simp[sub,upd]
 obtain rfl:k=part.length:=by omega
 have h0:LessO g en part 0 (wiF en.length part):=by
  refine⟨w'0 _ _ _,fun i hi=>?_,fun a' ha=>by omega⟩
  rcases z'g i en.length with h|h
  ·rw[ZcA h]at hi;exact of_decide_eq_true hi
  ·rw[z'e,z'z (by rw[w'0];exact h)]at hi
   cases hi
 rw[show wiF en.length part=wiK en.length part part.length from rfl]at h0
 generalize wiK en.length part part.length=o0 at h0⊢
 repeat' first|refine vs T rfl fun K hK=>?_;(try simp (disch:=omega) only[go_sem,Nat.reduceBEq,z'k]);(refine hK _ _ ?_;clear hK K)|refine st rfl ?_|refine sc rfl ?_|refine nl ?_|with_reducible refine z'j (fun hc=>?_) (fun hc=>?_)<;>(try simp only[decide_eq_true_eq,decide_eq_false_iff_not,z'm]at hc)<;>(try(exfalso;omega))
 refine VC.loop {x:Nat×List Bool//x.1≤ag∧LessO g en part x.1 x.2} (fun x=>⟨z'J [(1,v'l en),(2,iD (ag:Nat)),(3,z'C part),(4,.pt (csC g)),(9,.gs (some (bq,en.length)) en.length),(11,iD (x.1.1:Nat))],[(bq,.cells 4 (en.length*1) (x.1.2.map bD))]⟩) (fun x=>ag-x.1.1) ⟨(0,o0),z'M _,h0⟩ ?_ ?_
 ·refine z'v rfl ?_
  simp[sub,upd]
 rintro⟨⟨a,o⟩,ha,ho⟩
 dsimp only at ha ho⊢
 rcases z'g a ag with hlt|hge
 case inr=>
  obtain rfl:a=ag:=by omega
  repeat' first|refine vs T rfl fun K hK=>?_;(try simp (disch:=omega) only[go_sem,Nat.reduceBEq]);(refine hK _ _ ?_;clear hK K)|refine st rfl ?_|refine sc rfl ?_|refine nl ?_|with_reducible refine z'j (fun hc=>?_) (fun hc=>?_)<;>(try simp only[decide_eq_true_eq,decide_eq_false_iff_not,z'm]at hc)<;>(try(exfalso;omega))
  exact z'n T (z'p _) ⟨o,ho,v'G (e:=4) (g:=some (bq,en.length)) (l:=o.map bD) (by rw[w'5,ho.len]) (z'w _) (fun b c e=>by cases e;exact z'D ..) (Zhh _)⟩
 have cA:=Zgw g hT.ok hT.right part hpl (a:Nat)
 cases hA:v'j g part (a:Nat)with
 |true=>
  rw[hA]at cA
  have ho':LessO g en part (a+1) o:=⟨ho.len,ho.sub,x'm ho.out (fun h=>by rw[hA]at h;cases h)⟩
  repeat' first|refine vs T rfl fun K hK=>?_;(try simp (disch:=omega) only[go_sem,Nat.reduceBEq,Nat.reduceAdd,Nat.reduceLeDiff,w64]);(first|refine hK _ _ ?_;clear hK K|refine Op1.callp rfl rfl (cA) rfl ?_;refine hK _ _ ?_;clear hK K)|refine st rfl ?_|refine sc rfl ?_|refine nl ?_|with_reducible refine z'j (fun hc=>?_) (fun hc=>?_)<;>(try simp only[decide_eq_true_eq,decide_eq_false_iff_not,z'm]at hc)<;>(try(exfalso;omega))
  refine⟨⟨(a+1,o),hlt,ho'⟩,z'v rfl ?_,by dsimp only;omega⟩
  simp[sub,upd]
 |false=>
 rw[hA]at cA
 repeat' first|refine vs T rfl fun K hK=>?_;(try simp (disch:=omega) only[go_sem,Nat.reduceBEq,Nat.reduceAdd,Nat.reduceLeDiff]);(first|refine hK _ _ ?_;clear hK K|refine Op1.callp rfl rfl (cA) rfl ?_;refine hK _ _ ?_;clear hK K)|refine st rfl ?_|refine sc rfl ?_|refine nl ?_|with_reducible refine z'j (fun hc=>?_) (fun hc=>?_)<;>(try simp only[decide_eq_true_eq,decide_eq_false_iff_not,z'm]at hc)<;>(try(exfalso;omega))
 refine VC.loop {x:Nat×List Bool//x.1≤part.length∧LessO g en part a x.2∧ ∀k,k<x.1→enA en a (part.getD k 0)=true→x.2.getD (part.getD k 0).toNat false=false} (fun x=>⟨z'J [(1,v'l en),(2,iD (ag:Nat)),(3,z'C part),(4,.pt (csC g)),(9,.gs (some (bq,en.length)) en.length),(11,iD (a:Nat)),(12,iD (x.1.1:Nat))],[(bq,.cells 4 (en.length*1) (x.1.2.map bD))]⟩) (fun x=>part.length-x.1.1) ⟨(0,o),z'M _,ho,fun k hk=>by omega⟩ ?_ ?_
 ·refine z'v rfl ?_
  simp[sub,upd]
 rintro⟨⟨k,o⟩,hk,ho,hs⟩
 dsimp only at hk ho hs⊢
 rcases z'g k part.length with hkl|hge
 case inr=>
  obtain rfl:k=part.length:=by omega
  have ho':LessO g en part (a+1) o:=⟨ho.len,ho.sub,x'm ho.out (fun _ i hi he=>by
   obtain⟨j,hj,rfl⟩:=List.getElem_of_mem hi
   have:=hs j hj
   rw[z'e,z'b hj]at this
   exact this he)⟩
  repeat' first|refine vs T rfl fun K hK=>?_;(try simp (disch:=omega) only[go_sem,Nat.reduceBEq,z'k,w64]);(refine hK _ _ ?_;clear hK K)|refine st rfl ?_|refine sc rfl ?_|refine nl ?_|with_reducible refine z'j (fun hc=>?_) (fun hc=>?_)<;>(try simp only[decide_eq_true_eq,decide_eq_false_iff_not,z'm]at hc)<;>(try(exfalso;omega))
  refine⟨⟨(a+1,o),hlt,ho'⟩,z'v rfl ?_,by dsimp only;omega⟩
  simp[sub,upd]
 have hi:=hin k hkl
 have hrow:(en.getD (part.getD k 0).toNat []).length=ag:=hT.tab.row _ (x'w (by omega))
 have hol:=ho.len
 cases hv:(en.getD (part.getD k 0).toNat []).getD a false with
 |true=>
  have hs': ∀j,j<k+1→enA en a (part.getD j 0)=true→(o.set (part.getD k 0).toNat false).getD (part.getD j 0).toNat false=false:=x'm (fun j hj he=>by rw[Zha,hs j hj he];rfl) (fun _=>by rw[Zha,decide_eq_true rfl];simp)
  repeat' first|refine vs T rfl fun K hK=>?_;(try simp (disch:=omega) only[go_sem,Nat.reduceBEq,y'w,Zcn,v'v,hrow,hv,z'k,w64,z'f,z'u]);(first|refine hK _ _ ?_;clear hK K|refine⟨?_,hK _ _ ?_⟩<;>clear hK K;focus(try omega))|refine st rfl ?_|refine sc rfl ?_|refine nl ?_|with_reducible refine z'j (fun hc=>?_) (fun hc=>?_)<;>(try simp only[decide_eq_true_eq,decide_eq_false_iff_not,z'm]at hc)<;>(try(exfalso;omega))
  ·refine⟨⟨(k+1,o.set (part.getD k 0).toNat false),hkl,ho.set _,hs'⟩,z'v ?_ ?_,by dsimp only;omega⟩
   ·dsimp only
    rw[y'n,z'u]
   ·simp[sub,upd]
 |false=>
  repeat' first|refine vs T rfl fun K hK=>?_;(try simp (disch:=omega) only[go_sem,Nat.reduceBEq,y'w,Zcn,v'v,hrow,hv,z'k,w64,z'f,z'u]);(first|refine hK _ _ ?_;clear hK K|refine⟨?_,hK _ _ ?_⟩<;>clear hK K;focus(try omega))|refine st rfl ?_|refine sc rfl ?_|refine nl ?_|with_reducible refine z'j (fun hc=>?_) (fun hc=>?_)<;>(try simp only[decide_eq_true_eq,decide_eq_false_iff_not,z'm]at hc)<;>(try(exfalso;omega))
  refine⟨⟨(k+1,o),hkl,ho,x'm hs (fun he=>by unfold enA at he;rw[hv]at he;cases he)⟩,z'v (by dsimp only;rw[z'u]) ?_,by dsimp only;omega⟩
  simp[sub,upd]
theorem Zi2 {l:List Ed} {n:Nat} {q:List Int} {In:List Bool} (hq:PrO l n q) (hI:In.length=n) {part:List Int} (h:part∈ZaN q In):part.length≤n∧(∀i,i∈part→0≤i∧i<(n:Int)∧In.getD i.toNat false=true):=by
 obtain⟨nx,hq⟩:=hq
 have hlen:=hq.len
 obtain⟨h1,_⟩:=y'x.1 h
 obtain⟨p,_,rfl⟩:=z'y.1 h1
 refine⟨y'z (ZhE q In p q.length) (by omega),fun i hi=>?_⟩
 obtain⟨j,hj,rfl⟩:=z'y.1 hi
 obtain⟨h2,h3⟩:=y'x.1 hj
 have h2:=z'G.1 h2
 unfold inP at h3
 simp only[z'i]at h3
 show(0:Int)≤(j:Int)∧(j:Int)<(n:Int)∧In.getD (j:Int).toNat false=true
 exact⟨by omega,by omega,h3.2.2⟩
theorem Zku {a b:List Bool} (hl:a.length=b.length) (h: ∀i,a.getD i false=true→b.getD i false=true) {j:Nat} (h1:a.getD j false=false) (h2:b.getD j false=true):a.countP id<b.countP id:=by
 induction a generalizing b j with
 |nil=>
  cases b with
  |nil=>simp at h2
  |cons y b=>simp at hl
 |cons x a ih=>
  cases b with
  |nil=>simp at hl
  |cons y b=>
   have hl':a.length=b.length:=by simpa using hl
   have h': ∀i,a.getD i false=true→b.getD i false=true:=fun i hi=>by
    have:=h (i+1) (by simpa using hi)
    simpa using this
   have h0:x=true→y=true:=by
    have:=h 0
    simpa using this
   have hle: ∀{a b:List Bool},a.length=b.length→(∀i,a.getD i false=true→b.getD i false=true)→a.countP id≤b.countP id:=by
    intro a
    induction a with
    |nil=>intro b _ _;simp
    |cons x a ih2=>
     intro b hl h
     cases b with
     |nil=>simp at hl
     |cons y b=>
      have q1:=ih2 (by simpa using hl) (fun i hi=>by have:=h (i+1) (by simpa using hi);simpa using this)
      have q2:x=true→y=true:=by have:=h 0;simpa using this
      rw[w'r,w'r]
      cases x<;>cases y<;>simp at q2⊢ <;>omega
   rw[w'r,w'r]
   cases j with
   |zero=>
    have e1:x=false:=by simpa using h1
    have e2:y=true:=by simpa using h2
    subst e1;subst e2
    have:=hle hl' h'
    simp;omega
   |succ j=>
    have:=ih hl' h' (j:=j) (by simpa using h1) (by simpa using h2)
    cases x<;>cases y<;>simp at h0⊢ <;>omega
theorem ZnW {g:Cs} {en:List (List Bool)} {ag:Nat} {In o:List Bool} {part:List Int} (hl:In.length=en.length) (hp: ∀i,i∈part→0≤i∧i<(en.length:Int)∧In.getD i.toNat false=true) (ho:LessO g en part ag o) (hc:Ze4 g part=true) (hf:Zaq g en ag 2 part=false):o.countP id<In.countP id:=by
 unfold Zaq at hf
 rw[hc,w'E,z'R,List.any_eq_true]at hf
 obtain⟨a,ha,hu⟩:=hf
 have ha:=z'G.1 ha
 unfold Zen at hu
 simp only[z'i,z'N,x'A,beq_iff_eq,decide_eq_true_eq]at hu
 obtain⟨h1,h2⟩:=hu
 have h3:0<cnW en part a part.length:=by
  rcases h2 with⟨h2,_⟩|⟨_,h2⟩<;>omega
 unfold cnW at h3
 rw[z'X]at h3
 obtain⟨i,hi,he⟩:=List.countP_pos_iff.1 h3
 have hb:=hp i hi
 refine Zku (by rw[ho.len,hl]) (fun j hj=>?_) (ho.out a ha h1 i hi he) hb.2.2
 have:=hp _ (ho.sub j hj)
 rw[z'f]at this
 exact this.2.2
theorem ZiI {g:Cs} {en:List (List Bool)} {ag:Nat} (hT:Zau g en ag): ∀(N:Nat) (In:List Bool),In.length=en.length→In.countP id<N→Fun Tryz.prog 54 [.agg (csC g),v'l en,iD (ag:Nat),x'F In] [] false (fun d H'=> ∃q:List Int,q.length≤1000000∧d=z'C q∧H'=[]):=by
 intro N
 induction N with
 |zero=>intro In _ h;omega
 |succ N ih=>
 intro In hI hN
 have hen:=hT.tab.len
 have hnd:=hT.nodes
 have cW:=ZeX g hT.ok hT.right (by omega) In (by omega)
 rw[hnd]at cW
 refine Fun.fzE ?_
 refine Fun.of T [.tmp 8] Tryz.func54 rfl Tryz.ntmps54 Tryz.results54 rfl (by kernel_rfl) ?_
 repeat' first|refine vb (t:=32) rfl rfl rfl rfl ?_|refine vs T rfl fun K hK=>?_;(try simp (disch:=omega) only[go_sem,Nat.reduceBEq,Nat.reduceAdd,Nat.reduceLeDiff]);(first|refine hK _ _ ?_;clear hK K|refine Op1.callx rfl rfl (cW) rfl (fun q hq=>?_);refine hK _ _ ?_;clear hK K)|refine st rfl ?_|refine nl ?_
 have hGl:(ZaN q In).length≤1000:=y'z (Ze7 q In q.length) (by obtain⟨nx,h⟩:=hq;have:=h.len;omega)
 generalize hG:ZaN q In=Gs at hGl⊢
 refine VC.loop {k:Nat//k≤Gs.length} (fun x=>⟨z'J [(1,v'l en),(2,iD (ag:Nat)),(4,.pt (csC g)),(9,.sl false 1 (y'V Gs)),(10,iD (x.1:Nat))],[]⟩) (fun x=>Gs.length-x.1) ⟨0,z'M _⟩ ?_ ?_
 ·refine Weak.sub ?_
  simp[sub,upd, ←hG]
 rintro⟨k,hk⟩
 dsimp only
 rcases z'g k Gs.length with hlt|hge
 case inr=>
  obtain rfl:k=Gs.length:=by omega
  repeat' first|refine vs T rfl fun K hK=>?_;(try simp (disch:=omega) only[go_sem,Nat.reduceBEq,y'm]);(refine hK _ _ ?_;clear hK K)|refine st rfl ?_|refine sc rfl ?_|refine nl ?_|with_reducible refine z'j (fun hc=>?_) (fun hc=>?_)<;>(try simp only[decide_eq_true_eq,decide_eq_false_iff_not,z'm]at hc)<;>(try(exfalso;omega))
  exact z'n T (z'a _) ⟨[],by simp,y'q⟩
 have hm:=Zi2 hq hI (by rw[hG];exact x'w (d:=([]:List Int)) hlt)
 generalize hpt:Gs.getD k []=part at*
 have hpr:InR en part:=⟨by omega,fun i hi=>⟨(hm.2 i hi).1,(hm.2 i hi).2.1⟩⟩
 have c1:=ZeM g hT.ok hT.right part hpr.1
 have c2:=Zd7 hT 2 part hpr
 have c3:=Zk0 hT part hpr
 cases hC:Ze4 g part with
 |false=>
  rw[hC]at c1
  repeat' first|refine dr (id:=5) T 5 (by kernel_rfl) ?_|refine gn ?_|apply VCg.step T rfl rfl;focus((try simp (disch:=omega) only[go_sem,Nat.reduceBEq,Nat.reduceAdd,Nat.reduceLeDiff,Zco,hpt,z'f]);(first|exact rfl|refine⟨?_,rfl⟩;try omega))|refine vs T rfl fun K hK=>?_;(try simp (disch:=omega) only[go_sem,Nat.reduceBEq,y'm,w64]);(first|refine hK _ _ ?_;clear hK K|refine Op1.callp rfl rfl (c1) rfl ?_;refine hK _ _ ?_;clear hK K)|refine st rfl ?_|refine sc rfl ?_|refine nl ?_|with_reducible refine z'j (fun hc=>?_) (fun hc=>?_)<;>(try simp only[decide_eq_true_eq,decide_eq_false_iff_not,z'm]at hc)<;>(try(exfalso;omega))
  refine⟨⟨k+1,hlt⟩,Weak.sub ?_,by dsimp only;omega⟩
  simp[sub,upd]
 |true=>
 rw[hC]at c1
 cases hF:Zaq g en ag 2 part with
 |true=>
  rw[hF]at c2
  repeat' first|refine dr (id:=5) T 5 (by kernel_rfl) ?_|refine dr (id:=6) T 7 (by kernel_rfl) ?_|refine gn ?_|apply VCg.step T rfl rfl;focus((try simp (disch:=omega) only[go_sem,Nat.reduceBEq,Nat.reduceAdd,Nat.reduceLeDiff,Zco,hpt,z'f]);(first|exact rfl|refine⟨?_,rfl⟩;try omega))|refine vs T rfl fun K hK=>?_;(try simp (disch:=omega) only[go_sem,Nat.reduceBEq,Zco,hpt,y'm,z'f]);(first|refine hK _ _ ?_;clear hK K|refine⟨?_,hK _ _ ?_⟩<;>clear hK K;focus(try omega)|refine Op1.callp rfl rfl (c1) rfl ?_;refine hK _ _ ?_;clear hK K|refine Op1.callp rfl rfl (c2) rfl ?_;refine hK _ _ ?_;clear hK K)|refine st rfl ?_|refine sc rfl ?_|refine nl ?_|with_reducible refine z'j (fun hc=>?_) (fun hc=>?_)<;>(try simp only[decide_eq_true_eq,decide_eq_false_iff_not,z'm]at hc)<;>(try(exfalso;omega))
  exact z'n T (z'a _) ⟨part,hpr.1,Fz.refl _ _⟩
 |false=>
 rw[hF]at c2
 have c4:=fun(o:List Bool) (ho:LessO g en part ag o)=>ih o ho.len (by have:=ZnW hI hm.2 ho hC hF;omega)
 repeat' first|refine dr (id:=5) T 5 (by kernel_rfl) ?_|refine dr (id:=6) T 7 (by kernel_rfl) ?_|refine dr (id:=8) T 11 (by kernel_rfl) ?_|refine gn ?_|refine VCg.nil T ?_;simp only[y'4,WB]|apply VCg.step T rfl rfl;focus((try simp (disch:=omega) only[go_sem,Nat.reduceBEq,Nat.reduceAdd,Nat.reduceLeDiff,Zco,hpt,z'f]);(first|exact rfl|refine⟨?_,rfl⟩;try omega))|refine VCg.ownx T rfl rfl rfl rfl (c3) rfl ?_|refine vs T rfl fun K hK=>?_;(try simp (disch:=omega) only[go_sem,Nat.reduceBEq,y'm]);(first|refine hK _ _ ?_;clear hK K|refine Op1.callp rfl rfl (c1) rfl ?_;refine hK _ _ ?_;clear hK K|refine Op1.callp rfl rfl (c2) rfl ?_;refine hK _ _ ?_;clear hK K)|refine st rfl ?_|refine sc rfl ?_|refine nl ?_|with_reducible refine z'j (fun hc=>?_) (fun hc=>?_)<;>(try simp only[decide_eq_true_eq,decide_eq_false_iff_not,z'm]at hc)<;>(try(exfalso;omega))
 rintro _ _ ⟨o,ho,rfl,rfl⟩ hap
 repeat' first|refine vs T rfl fun K hK=>?_;(try simp (disch:=omega) only[go_sem,Nat.reduceBEq,z'k,w64]);(first|refine hK _ _ ?_;clear hK K|refine Op1.callx rfl rfl (c4 _ (by assumption)) rfl (fun q hq=>?_);refine hK _ _ ?_;clear hK K)|refine st rfl ?_|refine sc rfl ?_|refine nl ?_|with_reducible refine z'j (fun hc=>?_) (fun hc=>?_)<;>(try simp only[decide_eq_true_eq,decide_eq_false_iff_not,gt_iff_lt,z'm]at hc)
 ·exact z'n T (z'a _) ⟨q,hq,Fz.refl _ _⟩
 ·refine⟨⟨k+1,hlt⟩,Weak.sub ?_,by dsimp only;omega⟩
  simp[sub,upd]
abbrev Zhg (f:Nat) (args:List D):Prop:=Fun Tryz.prog f args [] false (fun d H'=> ∃q:List Int,q.length≤1000000∧d=z'C q∧H'=[])
theorem ZlL {g:Cs} {en:List (List Bool)} {ag:Nat} (hT:Zau g en ag):Zhg 28 [.agg (csC g),v'l en,iD (ag:Nat)]:=by
 have hen:=hT.tab.len
 have hnd:=hT.nodes
 have c1:=ZdG hT
 have cG:=ZhD g hT.ok hT.right (by omega)
 rw[hnd]at cG
 refine Fun.fzE ?_
 refine Fun.of T [.tmp 6] Tryz.func28 rfl Tryz.ntmps28 Tryz.results28 rfl (by kernel_rfl) ?_
 repeat' first|refine vb (t:=32) rfl rfl rfl rfl ?_|refine vs T rfl fun K hK=>?_;(try simp (disch:=omega) only[go_sem,Nat.reduceBEq,Nat.reduceAdd,Nat.reduceLeDiff]);(first|refine hK _ _ ?_;clear hK K|refine Op1.callp rfl rfl (c1) rfl ?_;refine hK _ _ ?_;clear hK K|refine Op1.callx rfl rfl (cG) rfl (fun q hq=>?_);refine hK _ _ ?_;clear hK K)|refine st rfl ?_|refine sc rfl ?_|refine nl ?_
 have hGl:(ZaN q (List.replicate en.length true)).length≤1000:=y'z (Ze7 q _ q.length) (by obtain⟨nx,h⟩:=hq;have:=h.len;omega)
 generalize hG:ZaN q (List.replicate en.length true)=Gs at hGl⊢
 refine VC.loop {k:Nat//k≤Gs.length} (fun x=>⟨z'J [(1,v'l en),(2,iD (ag:Nat)),(3,.pt (csC g)),(7,.sl false 1 (y'V Gs)),(8,iD (x.1:Nat))],[]⟩) (fun x=>Gs.length-x.1) ⟨0,z'M _⟩ ?_ ?_
 ·refine Weak.sub ?_
  simp[sub,upd, ←hG]
 rintro⟨k,hk⟩
 dsimp only
 rcases z'g k Gs.length with hlt|hge
 case inr=>
  obtain rfl:k=Gs.length:=by omega
  repeat' first|refine vs T rfl fun K hK=>?_;(try simp (disch:=omega) only[go_sem,Nat.reduceBEq,y'm]);(refine hK _ _ ?_;clear hK K)|refine st rfl ?_|refine sc rfl ?_|refine nl ?_|with_reducible refine z'j (fun hc=>?_) (fun hc=>?_)<;>(try simp only[decide_eq_true_eq,decide_eq_false_iff_not,z'm]at hc)<;>(try(exfalso;omega))
  exact z'n T (z'a _) ⟨[],by simp,y'q⟩
 have hm:=Zi2 (In:=List.replicate en.length true) hq (by rw[y'Z]) (by rw[hG];exact x'w (d:=([]:List Int)) hlt)
 generalize hpt:Gs.getD k []=part at*
 have hpr:InR en part:=⟨by omega,fun i hi=>⟨(hm.2 i hi).1,(hm.2 i hi).2.1⟩⟩
 have c2:=Zd7 hT 1 part hpr
 cases hF:Zaq g en ag 1 part with
 |true=>
  rw[hF]at c2
  repeat' first|refine dr (id:=7) T 7 (by kernel_rfl) ?_|refine gn ?_|apply VCg.step T rfl rfl;focus((try simp (disch:=omega) only[go_sem,Nat.reduceBEq,Nat.reduceAdd,Nat.reduceLeDiff,Zco,hpt,z'f]);(first|exact rfl|refine⟨?_,rfl⟩;try omega))|refine vs T rfl fun K hK=>?_;(try simp (disch:=omega) only[go_sem,Nat.reduceBEq,Zco,hpt,y'm,z'f]);(first|refine hK _ _ ?_;clear hK K|refine⟨?_,hK _ _ ?_⟩<;>clear hK K;focus(try omega)|refine Op1.callp rfl rfl (c2) rfl ?_;refine hK _ _ ?_;clear hK K)|refine st rfl ?_|refine sc rfl ?_|refine nl ?_|with_reducible refine z'j (fun hc=>?_) (fun hc=>?_)<;>(try simp only[decide_eq_true_eq,decide_eq_false_iff_not,z'm]at hc)<;>(try(exfalso;omega))
  exact z'n T (z'a _) ⟨part,hpr.1,Fz.refl _ _⟩
 |false=>
  rw[hF]at c2
  repeat' first|refine dr (id:=7) T 7 (by kernel_rfl) ?_|refine gn ?_|apply VCg.step T rfl rfl;focus((try simp (disch:=omega) only[go_sem,Nat.reduceBEq,Nat.reduceAdd,Nat.reduceLeDiff,Zco,hpt,z'f]);(first|exact rfl|refine⟨?_,rfl⟩;try omega))|refine vs T rfl fun K hK=>?_;(try simp (disch:=omega) only[go_sem,Nat.reduceBEq,y'm,w64]);(first|refine hK _ _ ?_;clear hK K|refine Op1.callp rfl rfl (c2) rfl ?_;refine hK _ _ ?_;clear hK K)|refine st rfl ?_|refine sc rfl ?_|refine nl ?_|with_reducible refine z'j (fun hc=>?_) (fun hc=>?_)<;>(try simp only[decide_eq_true_eq,decide_eq_false_iff_not,z'm]at hc)<;>(try(exfalso;omega))
  refine⟨⟨k+1,hlt⟩,Weak.sub ?_,by dsimp only;omega⟩
  simp[sub,upd]
theorem Zil {g:Cs} {en:List (List Bool)} {ag:Nat} (hT:Zau g en ag):Zhg 29 [.agg (csC g),v'l en,iD (ag:Nat)]:=by
 have hen:=hT.tab.len
 have c1:=ZdG hT
 have c2:=ZiI hT (en.length+1) (List.replicate en.length true) (by rw[y'Z]) (by have:=w'w (p:=id) (l:=List.replicate en.length true);rw[y'Z]at this;omega)
 generalize hn:en.length=n at c2 hen
 refine Fun.of T [.tmp 6] Tryz.func29 rfl Tryz.ntmps29 Tryz.results29 rfl (by kernel_rfl) ?_
 repeat' first|refine vb (t:=32) rfl rfl rfl rfl ?_|refine vs T rfl fun K hK=>?_;(try simp (disch:=omega) only[go_sem,Nat.reduceBEq,Nat.reduceAdd,Nat.reduceLeDiff,w'a,hn]);(first|refine hK _ _ ?_;clear hK K|refine⟨?_,fun bq hbq=>?_⟩;rotate_left;(try simp only[HB]at hbq);refine hK _ _ ?_;all_goals clear hK K|refine Op1.callp rfl rfl (c1) rfl ?_;refine hK _ _ ?_;clear hK K)|refine st rfl ?_|refine sc rfl ?_|refine nl ?_
 rotate_left
 ·exact⟨by omega,by omega,by omega⟩
 rw[Zdi]
 refine VC.loop {k:Nat//k≤n} (fun x=>⟨z'J [(1,v'l en),(2,iD (ag:Nat)),(3,.pt (csC g)),(7,.gs (some (bq,n)) n),(8,iD (x.1:Nat))],[(bq,.cells 4 (n*1) ((List.replicate x.1 true++List.replicate (n-x.1) false).map bD))]⟩) (fun x=>n-x.1) ⟨0,z'M _⟩ ?_ ?_
 ·refine z'v (by simp) ?_
  simp[sub,upd]
 rintro⟨k,hk⟩
 dsimp only
 rcases z'g k n with hlt|hge
 ·have hs:=ZhX hlt
  repeat' first|refine vs T rfl fun K hK=>?_;(try simp (disch:=omega) only[go_sem,Nat.reduceBEq,w'a,hn,w64,z'f,z'u]);(first|refine hK _ _ ?_;clear hK K|refine⟨?_,hK _ _ ?_⟩<;>clear hK K;focus(try omega))|refine st rfl ?_|refine sc rfl ?_|refine nl ?_|with_reducible refine z'j (fun hc=>?_) (fun hc=>?_)<;>(try simp only[decide_eq_true_eq,decide_eq_false_iff_not,z'm]at hc)<;>(try(exfalso;omega))
  ·simp;omega
  ·refine⟨⟨k+1,hlt⟩,z'v ?_ ?_,by dsimp only;omega⟩
   ·dsimp only
    rw[←hs,z'u]
   ·simp[sub,upd]
 obtain rfl:k=n:=by omega
 rw[Nat.sub_self,List.replicate_zero,z'x]
 refine VC.weak (Weak.fzs (t:=7) (g:=some (bq,k)) (e:=4) (esz:=1) (rows:=bRs (List.replicate k true)) (X:=[]) (by rw[Zcd];exact y'K _) (by rw[w'5,y'Z];rfl) (Zc4 _)) ?_
 repeat' first|refine vs T rfl fun K hK=>?_;(try simp (disch:=omega) only[go_sem,Nat.reduceBEq,Nat.reduceAdd,Nat.reduceLeDiff,w'a,hn]);(first|refine hK _ _ ?_;clear hK K|refine Op1.callx rfl rfl (c2) rfl (fun q hq=>?_);refine hK _ _ ?_;clear hK K)|refine st rfl ?_|refine sc rfl ?_|refine nl ?_|with_reducible refine z'j (fun hc=>?_) (fun hc=>?_)<;>(try simp only[decide_eq_true_eq,decide_eq_false_iff_not,z'm]at hc)<;>(try(exfalso;omega))
 exact z'n T (z'a _) ⟨q,hq,rfl,rfl⟩
theorem ZkI {g:Cs} {en:List (List Bool)} {ag:Nat} (hT:Zau g en ag) (md:Int):Zhg 10 [.agg (csC g),v'l en,iD (ag:Nat),iD md]:=by
 have c1:=ZlL hT
 have c2:=Zil hT
 refine Fun.fzE ?_
 refine Fun.of T [.tmp 8] Tryz.func10 rfl Tryz.ntmps10 Tryz.results10 rfl (by kernel_rfl) ?_
 repeat' first|refine vb (t:=32) rfl rfl rfl rfl ?_|refine vs T rfl fun K hK=>?_;(try simp (disch:=omega) only[go_sem,Nat.reduceBEq,Nat.reduceAdd,Nat.reduceLeDiff]);(first|refine hK _ _ ?_;clear hK K|refine Op1.callx rfl rfl (c1) rfl (fun q hq=>?_);refine hK _ _ ?_;clear hK K|refine Op1.callx rfl rfl (c2) rfl (fun q hq=>?_);refine hK _ _ ?_;clear hK K)|refine st rfl ?_|refine sc rfl ?_|refine nl ?_|with_reducible refine z'j (fun hc=>?_) (fun hc=>?_)<;>(try simp only[beq_iff_eq,beq_eq_false_iff_ne,ne_eq]at hc)
 all_goals first
  |exact z'n T (z'a _) ⟨q,hq,Fz.refl _ _⟩
  |exact z'n T (z'a _) ⟨[],by simp,y'q⟩
end Go.Proofs.YtfneeacgkdhldaaGreat
