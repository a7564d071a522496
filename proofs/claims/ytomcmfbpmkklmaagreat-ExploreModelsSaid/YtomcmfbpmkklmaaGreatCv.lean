/- Contracts: who can act where. No condition. -/
import Derived.Test.YtomcmfbpmkklmaaGreatCs
import Derived.Test.YtomcmfbpmkklmaaGreatCo
import Derived.Test.YtomcmfbpmkklmaaGreatDy
import Derived.Test.YtomcmfbpmkklmaaGreatRj
import Derived.Test.YtomcmfbpmkklmaaGreatRt
namespace Go.Proofs.YtomcmfbpmkklmaaGreat
set_option maxHeartbeats 16000000
set_option linter.unusedSimpArgs false
set_option linter.unusedVariables false
set_option maxRecDepth 20000
open Go Go.Proofs Go.Vc
attribute [local irreducible] y'0 VCg VCw VCx
def enR (u:Un) (m r:Int) (c:Cf):List Bool:=(List.range (y'N u m).length).map fun a=>enM u c m r ((a:Nat):Int)
theorem ZgL (u:Un) (m r:Int) (c:Cf):(enR u m r c).length=(y'N u m).length:=by simp[enR]
theorem ZkY {u:Un} {c:Cf} {m r:Int} {a:Nat} (ha:a<(y'N u m).length):((a:Int)∈y'6 u c m r)↔enM u c m r a=true:=by
 have h1:Zaq u m (a:Int)=some (y'N u m)[a]:=by
  unfold Zaq
  simp[ha]
 unfold enM
 rw[h1]
 unfold y'6 mvK
 constructor
 ·intro h
  obtain⟨i,hi,e⟩:=z'y.1 h
  have e:i=a:=Int.ofNat.inj e
  subst e
  have:=(x'B.1 hi).2
  simpa[ha]using this
 ·intro h
  exact z'y.2 ⟨a,x'B.2 ⟨z'K.2 ha,by simpa[ha]using h⟩,rfl⟩
theorem ZlW {u:Un} {c:Cf} {m r a:Int} (h:a∈y'6 u c m r):0≤a∧a<(y'N u m).length:=by
 unfold y'6 mvK at h
 obtain⟨i,hi,rfl⟩:=z'y.1 h
 have:=z'K.1 (x'B.1 hi).1
 omega
theorem Zkj {α:Type} {l:List α} {k:Nat} {d:α} (h:k<l.length):l.take (k+1)=l.take k++[l.getD k d]:=by
 rw[y'b,z'd,z'b h]
 rfl
def Zan (l:List (List Bool)):List (List D):=l.map fun b=>[v'Q b]
theorem Zba (l:List (List Bool)):(Zan l).length=l.length:=z'p ..
theorem ZiX {H:Heap}: ∀(l:List (List Bool)),FzR H 1 (Zan l) (l.map v'Q)
 |[]=>trivial
 |b::l=>⟨rfl,⟨_,_,rfl,Fz.refl _ _,trivial⟩,ZiX l⟩
theorem Zfl (u:Un) (hu:OkU u) (m r:Int) (C:List Cf) (g:Cs) (P B:List Int) (hl:C.length≤1000000) (hC: ∀c,c∈C→Rt u c m r):Pure Tryz.prog 41 [.agg (unC u),.agg (spC C g P B),iD m,iD r] (.sl false 1 (Zan (C.map (enR u m r)))):=by
 have ca:=Zkd u hu m
 have hn:=v'J u m
 refine Fun.fz ?_
 refine Fun.of T [.tmp 8] Tryz.func41 rfl Tryz.ntmps41 Tryz.results41 rfl (by kernel_rfl) ?_
 repeat' first|refine vb (t:=34) rfl rfl rfl rfl ?_|refine vb (t:=25) rfl rfl rfl rfl ?_|refine vs T rfl fun K hK=>?_;(try simp (disch:=omega) only[go_sem,Nat.reduceBEq,Nat.reduceAdd,Nat.reduceLeDiff,y'M]);(first|refine hK _ _ ?_;clear hK K|refine Op1.callp rfl rfl (ca) rfl ?_;refine hK _ _ ?_;clear hK K)|refine st rfl ?_|refine nl ?_
 generalize hN:(y'N u m).length=n at*
 refine VC.loop {x:Nat×G//x.1≤C.length∧gOk x.2 x.1} (fun x=>⟨z'M [(2,iD m),(3,iD r),(4,.pt (unC u)),(9,iD (n:Nat)),(10,.gs x.1.2 x.1.1),(20,.sl false 4 (x'I C)),(21,iD (C.length:Nat)),(22,iD (x.1.1:Nat))],shp x.1.2 49 1 (((C.take x.1.1).map (enR u m r)).map v'Q) []⟩) (fun x=>C.length-x.1.1) ⟨(0,none),z'6 _,rfl⟩ ?_ ?_
 ·refine Weak.sub ?_
  simp[sub,upd,y'M]
 rintro⟨⟨k,x⟩,hk,hx⟩
 dsimp only at hk hx⊢
 rcases z'g k C.length with hlt|hge
 case inr=>
  obtain rfl:k=C.length:=by omega
  rw[z'Q]
  repeat' first|refine vs T rfl fun K hK=>?_;(try simp (disch:=omega) only[go_sem,Nat.reduceBEq]);(refine hK _ _ ?_;clear hK K)|refine st rfl ?_|refine sc rfl ?_|refine nl ?_|with_reducible refine z's (fun hc=>?_) (fun hc=>?_)<;>(try simp only[decide_eq_true_eq,decide_eq_false_iff_not,z'u]at hc)<;>(try(exfalso;omega))
  refine z'j T (z'm _) ?_
  have q:=ZaS (e:=49) (H:=shp x 49 1 ((C.map (enR u m r)).map v'Q) []) (g:=x) (n:=C.length) (l:=(C.map (enR u m r)).map v'Q) (rows:=Zan (C.map (enR u m r))) (by rw[Zba,z'p]) hx (fun b c e=>by subst e;exact x'k) (ZiX _)
  exact q
 have hR:=hC _ (w'w (d:=(default:Cf)) hlt)
 have cm:=ZfJ hR
 have hmi:=fun a (ha:a<n)=>ZkY (u:=u) (c:=C.getD k default) (m:=m) (r:=r) (a:=a) (by omega)
 have hmb:=fun a=>ZlW (u:=u) (c:=C.getD k default) (m:=m) (r:=r) (a:=a)
 have hml:=Zcu (u:=u) (c:=C.getD k default) (m:=m) (r:=r)
 generalize hM:y'6 u (C.getD k default) m r=M at*
 repeat' first|refine vs T rfl fun K hK=>?_;(try simp (disch:=omega) only[go_sem,Nat.reduceBEq,Nat.reduceAdd,Nat.reduceLeDiff,v'M,z'l,Zp0,z'o]);(first|refine hK _ _ ?_;clear hK K|intro bq hbq;(try simp only[HB]at hbq);refine hK _ _ ?_;clear hK K|refine⟨?_,hK _ _ ?_⟩<;>clear hK K;focus(try omega)|refine⟨?_,fun bq hbq=>?_⟩;rotate_left;(try simp only[HB]at hbq);refine hK _ _ ?_;all_goals clear hK K|refine Op1.callp rfl rfl (cm) rfl ?_;refine hK _ _ ?_;clear hK K)|refine st rfl ?_|refine sc rfl ?_|refine nl ?_|with_reducible refine z's (fun hc=>?_) (fun hc=>?_)<;>(try simp only[decide_eq_true_eq,decide_eq_false_iff_not,z'u]at hc)<;>(try(exfalso;omega))
 rotate_left
 ·exact⟨by omega,by omega,by omega⟩
 rename_i b12 _
 refine VC.loop {p:Nat×List Bool//p.1≤M.length∧p.2.length=n∧ ∀a,a<n→(p.2.getD a false=true↔(a:Int)∈M.take p.1)} (fun p=>⟨z'M [(2,iD m),(3,iD r),(4,.pt (unC u)),(9,iD (n:Nat)),(10,.gs x k),(13,.gs (some (bq,n)) n),(20,.sl false 4 (x'I C)),(21,iD (C.length:Nat)),(22,iD (k:Nat)),(32,z'S M),(33,iD (M.length:Nat)),(34,iD (p.1.1:Nat))],(bq,.cells 4 (n*1) (p.1.2.map bD))::(b12,.cells 43 4 (cfC (C.getD k default)))::shp x 49 1 (((C.take k).map (enR u m r)).map v'Q) []⟩) (fun p=>M.length-p.1.1) ⟨(0,List.replicate n false),z'6 _,x'K ..,fun a ha=>by simp[z'd,List.getElem?_replicate,ha]⟩ ?_ ?_
 ·refine z'G rfl ?_
  simp[sub,upd,z'l]
 rintro⟨⟨j,o⟩,hj,hol,hoi⟩
 dsimp only at hj hol hoi⊢
 rcases z'g j M.length with hjl|hge
 ·have tm:=fun x=>Zm0 (x:=x) hjl
  have hb:=hmb (M.getD j 0) (w'w hjl)
  obtain⟨a,ha⟩: ∃a:Nat,M.getD j 0=(a:Int):=⟨(M.getD j 0).toNat,by omega⟩
  repeat' first|refine vs T rfl fun K hK=>?_;(try simp (disch:=omega) only[go_sem,Nat.reduceBEq,x'7,z'o,ha,w64,z'p,hol,z'w]);(first|refine hK _ _ ?_;clear hK K|refine⟨?_,hK _ _ ?_⟩<;>clear hK K;focus(try omega))|refine st rfl ?_|refine sc rfl ?_|refine nl ?_|with_reducible refine z's (fun hc=>?_) (fun hc=>?_)<;>(try simp only[decide_eq_true_eq,decide_eq_false_iff_not,z'u]at hc)<;>(try(exfalso;omega))
  have hset: ∀i,i<n→((o.set a true).getD i false=true↔(i:Int)∈M.take (j+1)):=fun i hi=>by
   rw[Zg2 (by rw[hol];omega),x'O,decide_eq_true_eq,hoi i hi,tm,ha]
   constructor
   ·rintro(h|h)
    ·exact .inr (by omega)
    ·exact .inl h
   ·rintro(h|h)
    ·exact .inr h
    ·exact .inl (by omega)
  refine⟨⟨(j+1,o.set a true),by dsimp only;exact⟨by omega,by rw[y'u];exact hol,hset⟩⟩,z'G (by dsimp only;rw[y'k,z'w]) ?_,by dsimp only;omega⟩
  simp[sub,upd]
 obtain rfl:j=M.length:=by omega
 rw[z'Q]at hoi
 have ho:o=enR u m r (C.getD k default):=by
  refine v'8 (d:=false) (by rw[hol,ZgL,hN]) fun i hi=>?_
  rw[hol]at hi
  have e:(enR u m r (C.getD k default)).getD i false=enM u (C.getD k default) m r (i:Nat):=by simp[enR,z'd,hN,hi]
  rw[e]
  have q:=(hoi i hi).trans (hmi i hi)
  cases h1:o.getD i false<;>cases h2:enM u (C.getD k default) m r (i:Nat)<;>simp_all
 subst ho
 refine VC.weak (Weak.fzs (t:=13) (g:=some (bq,n)) (e:=4) (esz:=1) (rows:=bRs (enR u m r (C.getD k default))) (X:=(b12,.cells 43 4 (cfC (C.getD k default)))::shp x 49 1 (((C.take k).map (enR u m r)).map v'Q) []) (by rw[Ziy];exact y'G _) (by rw[Ze2,hol];rfl) (Zjs _)) ?_
 repeat' first|refine vs T rfl fun K hK=>?_;(try simp (disch:=omega) only[go_sem,Nat.reduceBEq,Nat.reduceMul,Nat.reduceLeDiff,w64]);(first|refine hK _ _ ?_;clear hK K|refine⟨_,_,_,_,(by repeat (first|exact Sp.here|apply Sp.cons)),?_,(by exact⟨rfl,rfl⟩),⟨by decide,?_⟩,fun g' hg'=>hK _ _ ?_⟩<;>clear hK K)|refine st rfl ?_|refine sc rfl ?_|refine nl ?_|with_reducible refine z's (fun hc=>?_) (fun hc=>?_)<;>(try simp only[decide_eq_true_eq,decide_eq_false_iff_not,z'u]at hc)<;>(try(exfalso;omega))
 ·simp
  omega
 ·omega
 refine⟨⟨(k+1,g'),by omega,hg'⟩,y'S ?_ ?_,by dsimp only;omega⟩
 ·dsimp only
  rw[Zkj (d:=default) hlt,z'F,z'F]
  rfl
 ·simp[sub,upd]
theorem Zkg (u:Un) (hu:OkU u) (C:List Cf) (g:Cs) (P B:List Int) (hl:C.length≤1000000) (hC: ∀c,c∈C→OkC c):Pure Tryz.prog 47 [.agg (unC u),.agg (spC C g P B)] (z'S (plK (x'8 u) C C.length)):=by
 refine Fun.fz ?_
 refine Fun.of T [.tmp 4] Tryz.func47 rfl Tryz.ntmps47 Tryz.results47 rfl (by kernel_rfl) ?_
 repeat' first|refine vb (t:=34) rfl rfl rfl rfl ?_|refine vb (t:=25) rfl rfl rfl rfl ?_|refine vs T rfl fun K hK=>?_;(try simp (disch:=omega) only[go_sem]);(refine hK _ _ ?_;clear hK K)|refine st rfl ?_|refine nl ?_
 refine VC.loop {x:Nat×G//x.1≤C.length∧gOk x.2 (plK (x'8 u) C x.1).length} (fun x=>⟨z'M [(2,.pt (unC u)),(3,.pt (spC C g P B)),(5,.gs x.1.2 (plK (x'8 u) C x.1.1).length),(6,iD (x.1.1:Nat))],shp x.1.2 3 1 ((plK (x'8 u) C x.1.1).map iD) []⟩) (fun x=>C.length-x.1.1) ⟨(0,none),z'6 _,rfl⟩ ?_ ?_
 ·refine Weak.sub ?_
  simp[sub,upd,plK]
 rintro⟨⟨k,x⟩,hk,hx⟩
 dsimp only at hk hx⊢
 rcases z'g k C.length with hlt|hge
 case inr=>
  obtain rfl:k=C.length:=by omega
  repeat' first|refine vs T rfl fun K hK=>?_;(try simp (disch:=omega) only[go_sem,Nat.reduceBEq,y'M]);(refine hK _ _ ?_;clear hK K)|refine st rfl ?_|refine sc rfl ?_|refine nl ?_|with_reducible refine z's (fun hc=>?_) (fun hc=>?_)<;>(try simp only[decide_eq_true_eq,decide_eq_false_iff_not,z'u]at hc)<;>(try(exfalso;omega))
  exact z'j T (z'm _) (x'4 (e:=3) hx fun b c e=>by subst e;exact x'k)
 have hO:=hC _ (w'w (d:=(default:Cf)) hlt)
 have cf:=ZhG u (C.getD k default) (by have:=hu.cod;omega) (by have:=hO.bufs;omega)
 have hlen:=Zb6 (x'8 u) C k
 have hs:=ZfK (x'8 u) C k
 cases hp:x'8 u (C.getD k default)
 all_goals
  rw[hp]at hs cf
  simp only at hs
  repeat' first|refine dr (id:=5) T 6 (by kernel_rfl) ?_|refine gn ?_|apply VCg.step T rfl rfl;focus((try simp (disch:=omega) only[go_sem,Nat.reduceBEq,Nat.reduceAdd,Nat.reduceLeDiff,v'M]);(first|exact rfl|refine⟨?_,rfl⟩;try omega))|refine vs T rfl fun K hK=>?_;(try simp (disch:=omega) only[go_sem,Nat.reduceBEq,Nat.reduceMul,Nat.reduceLeDiff,y'M,w64]);(first|refine hK _ _ ?_;clear hK K|refine⟨_,_,_,_,(by repeat (exact Sp.here)),?_,(by exact⟨rfl,rfl⟩),⟨by decide,?_⟩,fun g' hg'=>hK _ _ ?_⟩<;>clear hK K|refine Op1.callp rfl rfl (cf) rfl ?_;refine hK _ _ ?_;clear hK K)|refine st rfl ?_|refine sc rfl ?_|refine nl ?_|with_reducible refine z's (fun hc=>?_) (fun hc=>?_)<;>(try simp only[decide_eq_true_eq,decide_eq_false_iff_not,z'u]at hc)<;>(try(exfalso;omega))
 ·refine⟨⟨(k+1,x),hlt,by rw[hs,z'r];exact hx⟩,z'G ?_ ?_,by dsimp only;omega⟩
  ·dsimp only
   rw[hs,z'r]
  ·simp[sub,upd,hs]
 ·rw[z'p,z'w]
 ·omega
 ·refine⟨⟨(k+1,g'),hlt,by rw[hs,z'k];exact hg'⟩,z'G ?_ ?_,by dsimp only;omega⟩
  ·dsimp only
   rw[hs,z'F]
   rfl
  ·simp[sub,upd,hs]
theorem ZkQ (u:Un) (m r:Int) (C:List Cf) (g:Cs) (P B:List Int) (hl:C.length≤1000000) (hC: ∀c,c∈C→Rt u c m r):Pure Tryz.prog 49 [.agg (unC u),.agg (spC C g P B),iD m,iD r] (z'S (plK (fun c=>v'R u c m r) C C.length)):=by
 refine Fun.fz ?_
 refine Fun.of T [.tmp 8] Tryz.func49 rfl Tryz.ntmps49 Tryz.results49 rfl (by kernel_rfl) ?_
 repeat' first|refine vb (t:=34) rfl rfl rfl rfl ?_|refine vb (t:=25) rfl rfl rfl rfl ?_|refine vs T rfl fun K hK=>?_;(try simp (disch:=omega) only[go_sem,Nat.reduceAdd]);(refine hK _ _ ?_;clear hK K)|refine st rfl ?_|refine nl ?_
 refine VC.loop {x:Nat×G//x.1≤C.length∧gOk x.2 (plK (fun c=>v'R u c m r) C x.1).length} (fun x=>⟨z'M [(2,iD m),(3,iD r),(4,.pt (unC u)),(5,.pt (spC C g P B)),(9,.gs x.1.2 (plK (fun c=>v'R u c m r) C x.1.1).length),(10,iD (x.1.1:Nat))],shp x.1.2 3 1 ((plK (fun c=>v'R u c m r) C x.1.1).map iD) []⟩) (fun x=>C.length-x.1.1) ⟨(0,none),z'6 _,rfl⟩ ?_ ?_
 ·refine Weak.sub ?_
  simp[sub,upd,plK]
 rintro⟨⟨k,x⟩,hk,hx⟩
 dsimp only at hk hx⊢
 rcases z'g k C.length with hlt|hge
 case inr=>
  obtain rfl:k=C.length:=by omega
  repeat' first|refine vs T rfl fun K hK=>?_;(try simp (disch:=omega) only[go_sem,Nat.reduceBEq,y'M]);(refine hK _ _ ?_;clear hK K)|refine st rfl ?_|refine sc rfl ?_|refine nl ?_|with_reducible refine z's (fun hc=>?_) (fun hc=>?_)<;>(try simp only[decide_eq_true_eq,decide_eq_false_iff_not,z'u]at hc)<;>(try(exfalso;omega))
  exact z'j T (z'm _) (x'4 (e:=3) hx fun b c e=>by subst e;exact x'k)
 have hO:=hC _ (w'w (d:=(default:Cf)) hlt)
 have cf:=Zmh hO
 have hlen:=Zb6 (fun c=>v'R u c m r) C k
 have hs:=ZfK (fun c=>v'R u c m r) C k
 cases hp:v'R u (C.getD k default) m r
 all_goals
  simp only[hp]at hs
  rw[hp]at cf
  repeat' first|refine dr (id:=5) T 8 (by kernel_rfl) ?_|refine gn ?_|apply VCg.step T rfl rfl;focus((try simp (disch:=omega) only[go_sem,Nat.reduceBEq,Nat.reduceAdd,Nat.reduceLeDiff,v'M]);(first|exact rfl|refine⟨?_,rfl⟩;try omega))|refine vs T rfl fun K hK=>?_;(try simp (disch:=omega) only[go_sem,Nat.reduceBEq,Nat.reduceMul,Nat.reduceLeDiff,y'M,w64]);(first|refine hK _ _ ?_;clear hK K|refine⟨_,_,_,_,(by repeat (exact Sp.here)),?_,(by exact⟨rfl,rfl⟩),⟨by decide,?_⟩,fun g' hg'=>hK _ _ ?_⟩<;>clear hK K|refine Op1.callp rfl rfl (cf) rfl ?_;refine hK _ _ ?_;clear hK K)|refine st rfl ?_|refine sc rfl ?_|refine nl ?_|with_reducible refine z's (fun hc=>?_) (fun hc=>?_)<;>(try simp only[decide_eq_true_eq,decide_eq_false_iff_not,z'u]at hc)<;>(try(exfalso;omega))
 ·refine⟨⟨(k+1,x),hlt,by rw[hs,z'r];exact hx⟩,z'G ?_ ?_,by dsimp only;omega⟩
  ·dsimp only
   rw[hs,z'r]
  ·simp[sub,upd,hs]
 ·rw[z'p,z'w]
 ·omega
 ·refine⟨⟨(k+1,g'),hlt,by rw[hs,z'k];exact hg'⟩,z'G ?_ ?_,by dsimp only;omega⟩
  ·dsimp only
   rw[hs,z'F]
   rfl
  ·simp[sub,upd,hs]
theorem Zo5 {u:Un} {c:Cf} {m r:Int} {a:Nat} (ha:a<(y'N u m).length):(enR u m r c).getD a false=enM u c m r (a:Nat):=by
 simp[enR,z'd,ha]
theorem Zjc (u:Un) (hu:OkU u) (m r:Int) (C:List Cf) (g:Cs) (P B:List Int) (hl:C.length≤1000000) (hC: ∀c,c∈C→Rt u c m r):Pure Tryz.prog 42 [.agg (unC u),.agg (spC C g P B),iD m,iD r] (.sl false 1 (Zan (C.map (enR u m r)))):=by
 have ca:=ZdK u hu m
 have hn:=v'J u m
 refine Fun.fz ?_
 refine Fun.of T [.tmp 8] Tryz.func42 rfl Tryz.ntmps42 Tryz.results42 rfl (by kernel_rfl) ?_
 repeat' first|refine vb (t:=34) rfl rfl rfl rfl ?_|refine vb (t:=25) rfl rfl rfl rfl ?_|refine vs T rfl fun K hK=>?_;(try simp (disch:=omega) only[go_sem,Nat.reduceAdd]);(refine hK _ _ ?_;clear hK K)|refine st rfl ?_|refine nl ?_
 generalize hN:(y'N u m).length=n at*
 refine VC.loop {x:Nat×G//x.1≤C.length∧gOk x.2 x.1} (fun x=>⟨z'M [(2,iD m),(3,iD r),(4,.pt (unC u)),(5,.pt (spC C g P B)),(9,.gs x.1.2 x.1.1),(10,iD (x.1.1:Nat))],shp x.1.2 49 1 (((C.take x.1.1).map (enR u m r)).map v'Q) []⟩) (fun x=>C.length-x.1.1) ⟨(0,none),z'6 _,rfl⟩ ?_ ?_
 ·refine Weak.sub ?_
  simp[sub,upd,y'M]
 rintro⟨⟨k,x⟩,hk,hx⟩
 dsimp only at hk hx⊢
 rcases z'g k C.length with hlt|hge
 case inr=>
  obtain rfl:k=C.length:=by omega
  rw[z'Q]
  repeat' first|refine vs T rfl fun K hK=>?_;(try simp (disch:=omega) only[go_sem,Nat.reduceBEq,y'M]);(refine hK _ _ ?_;clear hK K)|refine st rfl ?_|refine sc rfl ?_|refine nl ?_|with_reducible refine z's (fun hc=>?_) (fun hc=>?_)<;>(try simp only[decide_eq_true_eq,decide_eq_false_iff_not,z'u]at hc)<;>(try(exfalso;omega))
  refine z'j T (z'm _) ?_
  have q:=ZaS (e:=49) (H:=shp x 49 1 ((C.map (enR u m r)).map v'Q) []) (g:=x) (n:=C.length) (l:=(C.map (enR u m r)).map v'Q) (rows:=Zan (C.map (enR u m r))) (by rw[Zba,z'p]) hx (fun b c e=>by subst e;exact x'k) (ZiX _)
  exact q
 have hR:=hC _ (w'w (d:=(default:Cf)) hlt)
 have hel:(enR u m r (C.getD k default)).length=n:=by rw[ZgL,hN]
 repeat' first|refine vs T rfl fun K hK=>?_;(try simp (disch:=omega) only[go_sem,Nat.reduceBEq,y'M]);(refine hK _ _ ?_;clear hK K)|refine st rfl ?_|refine sc rfl ?_|refine nl ?_|with_reducible refine z's (fun hc=>?_) (fun hc=>?_)<;>(try simp only[decide_eq_true_eq,decide_eq_false_iff_not,z'u]at hc)<;>(try(exfalso;omega))
 refine VC.loop {p:Nat×G//p.1≤n∧gOk p.2 p.1} (fun p=>⟨z'M [(2,iD m),(3,iD r),(4,.pt (unC u)),(5,.pt (spC C g P B)),(9,.gs x k),(10,iD (k:Nat)),(11,.gs p.1.2 p.1.1),(12,iD (p.1.1:Nat))],shp p.1.2 4 1 (((enR u m r (C.getD k default)).take p.1.1).map bD) (shp x 49 1 (((C.take k).map (enR u m r)).map v'Q) [])⟩) (fun p=>n-p.1.1) ⟨(0,none),z'6 _,rfl⟩ ?_ ?_
 ·refine z'G rfl ?_
  simp[sub,upd]
 rintro⟨⟨a,y⟩,ha,hy⟩
 dsimp only at ha hy⊢
 rcases z'g a n with hal|hge
 ·have ce:=ZgQ hR (a:Nat)
  have hea:=Zo5 (u:=u) (c:=C.getD k default) (m:=m) (r:=r) (a:=a) (by omega)
  repeat' first|refine dr (id:=9) T 12 (by kernel_rfl) ?_|refine gn ?_|apply VCg.step T rfl rfl;focus((try simp (disch:=omega) only[go_sem,Nat.reduceBEq,Nat.reduceAdd,Nat.reduceMul,Nat.reduceLeDiff,v'M]);(first|exact rfl|refine⟨?_,rfl⟩;try omega|refine Op1.callp rfl rfl (ce) rfl ?_;exact⟨rfl,rfl⟩))|refine vs T rfl fun K hK=>?_;(try simp (disch:=omega) only[go_sem,Nat.reduceBEq,Nat.reduceAdd,Nat.reduceLeDiff,w64]);(first|refine hK _ _ ?_;clear hK K|refine⟨_,_,_,_,(by repeat (exact Sp.here)),?_,(by exact⟨rfl,rfl⟩),⟨by decide,?_⟩,fun g' hg'=>hK _ _ ?_⟩<;>clear hK K|refine Op1.callp rfl rfl (ca) rfl ?_;refine hK _ _ ?_;clear hK K)|refine st rfl ?_|refine sc rfl ?_|refine nl ?_|with_reducible refine z's (fun hc=>?_) (fun hc=>?_)<;>(try simp only[decide_eq_true_eq,decide_eq_false_iff_not,z'u]at hc)<;>(try(exfalso;omega))
  ·simp only[z'p,z'A]
   omega
  ·omega
  ·refine⟨⟨(a+1,g'),by dsimp only;exact⟨by omega,hg'⟩⟩,z'G ?_ ?_,by dsimp only;omega⟩
   ·dsimp only
    rw[Zkj (d:=false) (by omega),z'F,hea]
    rfl
   ·simp[sub,upd]
 obtain rfl:a=n:=by omega
 rw[←hel,z'Q,hel]
 refine VC.weak (Weak.fzs (t:=11) (g:=y) (e:=4) (esz:=1) (rows:=bRs (enR u m r (C.getD k default))) (X:=shp x 49 1 (((C.take k).map (enR u m r)).map v'Q) []) (by rw[Ziy]) (by rw[Ze2,hel];rfl) (Zjs _)) ?_
 repeat' first|refine vs T rfl fun K hK=>?_;(try simp (disch:=omega) only[go_sem,Nat.reduceBEq,Nat.reduceAdd,Nat.reduceMul,Nat.reduceLeDiff,w64]);(first|refine hK _ _ ?_;clear hK K|refine⟨_,_,_,_,(by repeat (exact Sp.here)),?_,(by exact⟨rfl,rfl⟩),⟨by decide,?_⟩,fun g' hg'=>hK _ _ ?_⟩<;>clear hK K|refine Op1.callp rfl rfl (ca) rfl ?_;refine hK _ _ ?_;clear hK K)|refine st rfl ?_|refine sc rfl ?_|refine nl ?_|with_reducible refine z's (fun hc=>?_) (fun hc=>?_)<;>(try simp only[decide_eq_true_eq,decide_eq_false_iff_not,z'u]at hc)<;>(try(exfalso;omega))
 ·simp only[z'p,z'A]
  omega
 ·omega
 refine⟨⟨(k+1,g'),by omega,hg'⟩,z'G ?_ ?_,by dsimp only;omega⟩
 ·dsimp only
  rw[Zkj (d:=default) hlt,z'F,z'F]
  rfl
 ·simp[sub,upd]
end Go.Proofs.YtomcmfbpmkklmaaGreat
