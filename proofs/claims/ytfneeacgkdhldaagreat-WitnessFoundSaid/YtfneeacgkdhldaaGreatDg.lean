/- Contracts: the reference finds all that can be reached. No condition. -/
import Derived.Test.YtfneeacgkdhldaaGreatDf
import Derived.Test.YtfneeacgkdhldaaGreatSa
import Derived.Test.YtfneeacgkdhldaaGreatRt
namespace Go.Proofs.YtfneeacgkdhldaaGreat
set_option maxHeartbeats 16000000
set_option linter.unusedSimpArgs false
set_option linter.unusedVariables false
set_option maxRecDepth 20000
open Go Go.Proofs Go.Vc
attribute [local irreducible] y'5 VCg VCw VCx
theorem Zlv {a b:Cf}:x'K a b=true↔a=b:=⟨fun h=>(Zij h).symm,fun h=>by subst h;exact ZdJ a⟩
theorem ZkH (C:List Cf) (g:Cs) (P B:List Int) (hl:C.length≤1000000) (hC: ∀c,c∈C→OkC c) (c:Cf) (hc:OkC c):Pure Tryz.prog 22 [.agg (spC C g P B),.agg (cfC c)] (iD (plI (Ze9 C c))):=by
 refine Fun.of T [.tmp 4] Tryz.func22 rfl Tryz.ntmps22 Tryz.results22 rfl (by kernel_rfl) ?_
 repeat' first|refine vb (t:=34) rfl rfl rfl rfl ?_|refine vb (t:=51) rfl rfl rfl rfl ?_|refine vs T rfl fun K hK=>?_;(try simp (disch:=omega) only[go_sem]);(refine hK _ _ ?_;clear hK K)|refine st rfl ?_|refine nl ?_
 refine VC.loop {k:Nat//k≤C.length∧ ∀i,i<k→C[i]?≠some c} (fun p=>⟨z'J [(2,.pt (spC C g P B)),(3,.pt (cfC c)),(5,iD (p.1:Nat))],[]⟩) (fun p=>C.length-p.1) ⟨0,by omega,fun i hi=>by omega⟩ ?_ ?_
 ·refine Weak.sub ?_
  simp[sub,upd]
 rintro⟨k,hk,hs⟩
 dsimp only
 rcases z'g k C.length with hlt|hge
 case inr=>
  obtain rfl:k=C.length:=by omega
  rw[Zph hs]
  repeat' first|refine vs T rfl fun K hK=>?_;(try simp (disch:=omega) only[go_sem,Nat.reduceBEq,w'S]);(refine hK _ _ ?_;clear hK K)|refine st rfl ?_|refine sc rfl ?_|refine nl ?_|exact z'n T (z'a _) ⟨rfl,rfl⟩|with_reducible refine z'j (fun hc=>?_) (fun hc=>?_)<;>(try simp only[decide_eq_true_eq,decide_eq_false_iff_not,z'm]at hc)<;>(try(exfalso;omega))
 have hat:=w'7 (d:=(default:Cf)) hlt
 have cs:=ZmV (C.getD k default) c (hC _ (x'w hlt)) hc
 cases h:x'K (C.getD k default) c with
 |true=>
  rw[h]at cs
  rw[Zpg (by rw[hat,Zlv.1 h]) hs]
  repeat' first|refine dr (id:=4) T 6 (by kernel_rfl) ?_|refine gn ?_|apply VCg.step T rfl rfl;focus((try simp (disch:=omega) only[go_sem,Nat.reduceBEq,Nat.reduceAdd,Nat.reduceLeDiff,ZfJ,z'f]);(first|exact rfl|refine⟨?_,rfl⟩;try omega))|refine vs T rfl fun K hK=>?_;(try simp (disch:=omega) only[go_sem,Nat.reduceBEq,w'S]);(first|refine hK _ _ ?_;clear hK K|refine Op1.callp rfl rfl (cs) rfl ?_;refine hK _ _ ?_;clear hK K)|refine st rfl ?_|refine sc rfl ?_|refine nl ?_|exact z'n T (z'a _) ⟨rfl,rfl⟩|with_reducible refine z'j (fun hc=>?_) (fun hc=>?_)<;>(try simp only[decide_eq_true_eq,decide_eq_false_iff_not,z'm]at hc)<;>(try(exfalso;omega))
 |false=>
  rw[h]at cs
  repeat' first|refine dr (id:=4) T 6 (by kernel_rfl) ?_|refine gn ?_|apply VCg.step T rfl rfl;focus((try simp (disch:=omega) only[go_sem,Nat.reduceBEq,Nat.reduceAdd,Nat.reduceLeDiff,ZfJ,z'f]);(first|exact rfl|refine⟨?_,rfl⟩;try omega))|refine vs T rfl fun K hK=>?_;(try simp (disch:=omega) only[go_sem,Nat.reduceBEq,w'S,w64]);(first|refine hK _ _ ?_;clear hK K|refine Op1.callp rfl rfl (cs) rfl ?_;refine hK _ _ ?_;clear hK K)|refine st rfl ?_|refine sc rfl ?_|refine nl ?_|with_reducible refine z'j (fun hc=>?_) (fun hc=>?_)<;>(try simp only[decide_eq_true_eq,decide_eq_false_iff_not,z'm]at hc)<;>(try(exfalso;omega))
  refine⟨⟨k+1,by omega,fun i hi=>?_⟩,Weak.sub ?_,by simp only[];omega⟩
  ·rcases z'g i k with h'|h'
   ·exact hs i h'
   ·obtain rfl:i=k:=by omega
    rw[hat]
    rintro e
    rw[y'k e,ZdJ]at h
    cases h
  ·simp[sub,upd]
def Zal (m r b:Int):Bool:=(decide (1≤m)&&decide (m≤3))&&((decide (1≤r)&&decide (r≤4))&&(decide (1≤b)&&decide (b≤100000)))
def v'5 (u:Un) (m r b:Int):Int:=match y't u,Zal m r b with
 |false,_=>8
 |true,false=>1
 |true,true=>match v'k u m r b with
  |some _=>0
  |none=>18
def spR (u:Un) (m r b:Int):List D:=match y't u&&Zal m r b with
 |true=>match v'k u m r b with
  |some S=>spA S
  |none=>spC [] ⟨[],[],[]⟩ [] []
 |false=>spC [] ⟨[],[],[]⟩ [] []
abbrev spZ:List D:=[.gs none 0,.gs none 0,.gs none 0,.gs none 0,.gs none 0,.gs none 0]
theorem ZhB {H:Heap} {a:D}:Fz H (.tup [.agg (spC [] ⟨[],[],[]⟩ [] []),a]) (.tup [.agg spZ,a]):=
 ⟨_,rfl,z't ⟨_,rfl,z't y'q (z't y'q (z't y'q (z't y'q (z't y'q (z't y'q x'T)))))⟩ (FzL.refl _ _)⟩
theorem ZmO (u:Un) (hu:OkU u) (m r b:Int) (hU:y't u=false):Pure Tryz.prog 6 [.agg (unC u),iD m,iD r,iD b] (.tup [.agg (spR u m r b),iD (v'5 u m r b)]):=by
 have cs:=Zeh u hu
 have cs:Pure Tryz.prog 19 [.agg (unC u)] (.tup [.agg (cfC cf0),iD 8]):=by rwa [show v'1 u=cf0 by simp[v'1,hU],show v'2 u=8 by simp[v'2,hU]]at cs
 have e1:spR u m r b=spC [] ⟨[],[],[]⟩ [] []:=by simp[spR,hU]
 have e2:v'5 u m r b=8:=by simp[v'5,hU]
 rw[e1,e2]
 refine Fun.fz ?_
 refine Fun.of T [.cell 8 34,.tmp 9] Tryz.func6 rfl Tryz.ntmps6 Tryz.results6 rfl (by kernel_rfl) ?_
 repeat' first|refine vb (t:=25) rfl rfl rfl rfl ?_|refine vs T rfl fun K hK=>?_;(try simp (disch:=omega) only[go_sem,Nat.reduceBEq,Nat.reduceAdd,Nat.reduceLeDiff]);(first|refine hK _ _ ?_;clear hK K|intro bq hbq;(try simp only[HB]at hbq);refine hK _ _ ?_;clear hK K|refine Op1.callp rfl rfl (cs) rfl ?_;refine hK _ _ ?_;clear hK K)|refine st rfl ?_|refine sc rfl ?_|refine nl ?_
 rename_i b8 hb8
 have n1: ¬bq=b8:=hbq
 exact x'g T rfl (by(try simp (disch:=omega) only[hget_ne,hget_eq]);rfl) rfl rfl rfl (z'a _) ZhB
theorem ZmN (u:Un) (hu:OkU u) (m r b:Int) (hU:y't u=true) (hA:Zal m r b=false):Pure Tryz.prog 6 [.agg (unC u),iD m,iD r,iD b] (.tup [.agg (spR u m r b),iD (v'5 u m r b)]):=by
 have cs:=Zeh u hu
 have cs:Pure Tryz.prog 19 [.agg (unC u)] (.tup [.agg (cfC (x'l u)),iD 0]):=by rwa [show v'1 u=x'l u by simp[v'1,hU],show v'2 u=0 by simp[v'2,hU]]at cs
 have e1:spR u m r b=spC [] ⟨[],[],[]⟩ [] []:=by simp[spR,hU,hA]
 have e2:v'5 u m r b=1:=by simp[v'5,hU,hA]
 have hA': ¬(1≤m∧m≤3∧1≤r∧r≤4∧1≤b∧b≤100000):=fun h=>by
  have:Zal m r b=true:=by simp only[Zal,z'i,decide_eq_true_eq];omega
  rw[this]at hA;cases hA
 rw[e1,e2]
 refine Fun.fz ?_
 refine Fun.of T [.cell 8 34,.tmp 9] Tryz.func6 rfl Tryz.ntmps6 Tryz.results6 rfl (by kernel_rfl) ?_
 repeat' first|refine vb (t:=25) rfl rfl rfl rfl ?_|refine vs T rfl fun K hK=>?_;(try simp (disch:=omega) only[go_sem,Nat.reduceBEq,Nat.reduceAdd,Nat.reduceLeDiff]);(first|refine hK _ _ ?_;clear hK K|intro bq hbq;(try simp only[HB]at hbq);refine hK _ _ ?_;clear hK K|refine Op1.callp rfl rfl (cs) rfl ?_;refine hK _ _ ?_;clear hK K)|refine st rfl ?_|refine sc rfl ?_|refine nl ?_|refine gs rfl rfl ?_|with_reducible refine z'j (fun hc=>?_) (fun hc=>?_)<;>(try simp only[decide_eq_true_eq,decide_eq_false_iff_not,gt_iff_lt,z'm]at hc)<;>(try(exfalso;omega))
 all_goals(exact x'g T rfl (by(try simp (disch:=omega) only[hget_ne,hget_eq]);rfl) rfl rfl rfl (z'a _) ZhB)
abbrev spD (bc cc:Nat) (gp gb:Option (Nat×Nat)) (n1 n2 n3:Nat):List D:=[.gs (some (bc,cc)) n1,.gs none 0,.gs none 0,.gs none 0,.gs gp n2,.gs gb n3]
abbrev spH (bc cc:Nat) (gp gb gl:Option (Nat×Nat)) (S:Spc Cf):Heap:=
 (bc,.cells 51 (cc*4) (w'B S.cf).flatten)::shp gp 3 1 (S.pa.map iD) (shp gb 3 1 (S.ag.map iD) (shp gl 70 3 (Zam (edS S)).flatten []))
theorem w'e {C:List Cf} {i:Nat} (h:i<C.length):((w'B C).flatten.drop (i*4)).take 4=cfC (C.getD i default):=by
 induction C generalizing i with
 |nil=>simp at h
 |cons c C ih=>
  cases i with
  |zero=>rfl
  |succ i=>
   have:(w'B (c::C)).flatten=cfC c++(w'B C).flatten:=rfl
   rw[this,show(i+1)*4=(cfC c).length+i*4 by simp;omega,List.drop_length_add_append,ih (by simpa using h)]
   simp
theorem Zbk {bc cc:Nat} {gp gb gl:Option (Nat×Nat)} {S:Spc Cf} {H:Heap} (h1:S.cf.length≤cc) (h2:gOk gp S.pa.length) (h3:gOk gb S.ag.length) (hm: ∀x,x∈spH bc cc gp gb gl S→x∈H):
  Fz H (.agg (spC S.cf ⟨[],[],[]⟩ S.pa S.ag)) (.agg (spD bc cc gp gb S.cf.length S.pa.length S.ag.length)):=by
 have z1:Fz H (.sl false 4 (w'B S.cf)) (.gs (some (bc,cc)) S.cf.length):=v'G (e:=51) (w'S S.cf).symm h1 (fun b c e=>by cases e;exact hm _ (z'D ..)) (FzR.refl _ _ (ZeL _))
 have z2:=w'z (e:=3) (s:=S.pa) (H:=H) h2 fun b c e=>hm _ (z'd _ (by subst e;exact x'x))
 have z3:=w'z (e:=3) (s:=S.ag) (H:=H) h3 fun b c e=>hm _ (z'd _ (w'Q (by subst e;exact x'x)))
 exact⟨_,rfl,z't z1 (z't y'q (z't y'q (z't y'q (z't z2 (z't z3 x'T)))))⟩
theorem Zpe {bc cc:Nat} {gp gb:Option (Nat×Nat)} {S:Spc Cf} {g:Cs} {H:Heap} {a:D} (h1:S.cf.length≤cc) (h2:gOk gp S.pa.length) (h3:gOk gb S.ag.length) (hm: ∀x,x∈(bc,HC.cells 51 (cc*4) (w'B S.cf).flatten)::shp gp 3 1 (S.pa.map iD) (shp gb 3 1 (S.ag.map iD) [])→x∈H):
  Fz H (.tup [.agg (spC S.cf g S.pa S.ag),a]) (.tup [.agg [.gs (some (bc,cc)) S.cf.length,z'C g.st,z'C g.ag,z'C g.to,.gs gp S.pa.length,.gs gb S.ag.length],a]):=by
 have z1:Fz H (.sl false 4 (w'B S.cf)) (.gs (some (bc,cc)) S.cf.length):=v'G (e:=51) (w'S S.cf).symm h1 (fun b c e=>by cases e;exact hm _ (z'D ..)) (FzR.refl _ _ (ZeL _))
 have z2:=w'z (e:=3) (s:=S.pa) (H:=H) h2 fun b c e=>hm _ (z'd _ (by subst e;exact x'x))
 have z3:=w'z (e:=3) (s:=S.ag) (H:=H) h3 fun b c e=>hm _ (z'd _ (w'Q (by subst e;exact x'x)))
 exact⟨_,rfl,z't ⟨_,rfl,z't z1 (z't (Fz.refl _ _) (z't (Fz.refl _ _) (z't (Fz.refl _ _) (z't z2 (z't z3 x'T)))))⟩ (FzL.refl _ _)⟩
theorem Zpb {gl:Option (Nat×Nat)} {S:Spc Cf} {H:Heap} (hg:gOk gl S.ed.length) (hm: ∀b cap,gl=some (b,cap)→(b,HC.cells 70 (cap*3) (Zam (edS S)).flatten)∈H):Fz H (Zaw (edS S)) (.gs gl S.ed.length):=
 v'G (e:=70) (by rw[x'h,Zc7]) hg hm (FzR.refl _ _ (Zds _))
theorem Zox (u:Un) (hu:OkU u) (m r b:Int) (hU:y't u=true) (hA:Zal m r b=true) (hb:b≤1000):Pure Tryz.prog 6 [.agg (unC u),iD m,iD r,iD b] (.tup [.agg (spR u m r b),iD (v'5 u m r b)]):=by
 have cs:=Zeh u hu
 have cs:Pure Tryz.prog 19 [.agg (unC u)] (.tup [.agg (cfC (x'l u)),iD 0]):=by rwa [show v'1 u=x'l u by simp[v'1,hU],show v'2 u=0 by simp[v'2,hU]]at cs
 have hA':=hA
 simp only[Zal,z'i,decide_eq_true_eq]at hA'
 have h0:=ZbP hu hU hA'.1 hA'.2.1
 refine Fun.fz ?_
 refine Fun.of T [.cell 8 34,.tmp 9] Tryz.func6 rfl Tryz.ntmps6 Tryz.results6 rfl (by kernel_rfl) ?_
 repeat' first|refine vb (t:=25) rfl rfl rfl rfl ?_|refine vs T rfl fun K hK=>?_;(try simp (disch:=omega) only[go_sem,Nat.reduceBEq,Nat.reduceAdd,Nat.reduceMul,Nat.reduceLeDiff]);(first|refine hK _ _ ?_;clear hK K|refine⟨_,_,_,_,(by repeat (first|apply Sp.cons|exact Sp.nil)),?_,(by exact⟨rfl,rfl⟩),⟨by decide,?_⟩,fun g' hg'=>hK _ _ ?_⟩<;>clear hK K|refine⟨_,_,_,_,(by repeat (first|apply Sp.cons|exact Sp.nil)),?_,(by exact⟨rfl,rfl⟩),?_,fun g' hg'=>hK _ _ ?_⟩<;>clear hK K|intro bq hbq;(try simp only[HB]at hbq);refine hK _ _ ?_;clear hK K|refine Op1.callp rfl rfl (cs) rfl ?_;refine hK _ _ ?_;clear hK K)|refine st rfl ?_|refine sc rfl ?_|refine nl ?_|refine gs rfl rfl ?_|with_reducible refine z'j (fun hc=>?_) (fun hc=>?_)<;>(try simp only[decide_eq_true_eq,decide_eq_false_iff_not,gt_iff_lt,z'm]at hc)<;>(try(exfalso;omega))
 ·rfl
 ·decide
 ·rfl
 ·decide
 ·rfl
 ·decide
 rename_i b8 t8 b10 h10 c1 c2 c3 c4 c5 gc hgc gp hgp
 have hE0:v'5 u m r b=match v'k u m r b with|some _=>0|none=>18:=by simp only[v'5,hU,hA]
 have hS0:spR u m r b=match v'k u m r b with|some S=>spA S|none=>spC [] ⟨[],[],[]⟩ [] []:=by simp only[spR,hU,hA,w'1]
 rcases gc with _|⟨bc,cc⟩
 ·cases hgc
 have hall:v'k u m r b=w'l (fun c=>x'4 u c m r) (fun c a=>actM u c m r a) b.toNat (b.toNat+1) 0 ⟨[x'l u],[-1],[-1],[]⟩:=rfl
 obtain⟨B,rfl⟩: ∃B:Nat,b=(B:Int):=⟨b.toNat,by omega⟩
 rw[z'f]at hall
 refine VC.loop {p:Spc Cf×Nat×(Nat×Nat)×Option (Nat×Nat)×Option (Nat×Nat)×Option (Nat×Nat)//p.2.1≤p.1.cf.length∧p.1.cf.length≤B∧1≤p.1.cf.length∧(p.1.pa.length=p.1.cf.length∧p.1.ag.length=p.1.cf.length∧p.1.ed.length≤28*p.2.1)∧(∀c,c∈p.1.cf→Rt u c m r)∧
   v'k u m r B=w'l (fun c=>x'4 u c m r) (fun c a=>actM u c m r a) B (B+1-p.2.1) p.2.1 p.1∧(p.1.cf.length≤p.2.2.1.2∧gOk p.2.2.2.1 p.1.pa.length∧gOk p.2.2.2.2.1 p.1.ag.length)}
  (fun p=>⟨z'J [(1,iD m),(2,iD r),(3,iD (B:Nat)),(4,.pt (unC u)),(8,pD b8),(12,pD bq),(13,.gs p.1.2.2.2.2.2 p.1.1.ed.length),(14,iD (p.1.2.1:Nat))],
   (bq,.cells 34 6 (spD p.1.2.2.1.1 p.1.2.2.1.2 p.1.2.2.2.1 p.1.2.2.2.2.1 p.1.1.cf.length p.1.1.pa.length p.1.1.ag.length))::(b10,.cells 51 4 (cfC (x'l u)))::(b8,.cells 34 6 spZ)::spH p.1.2.2.1.1 p.1.2.2.1.2 p.1.2.2.2.1 p.1.2.2.2.2.1 p.1.2.2.2.2.2 p.1.1⟩)
  (fun p=>B+1-p.1.2.1) ⟨(⟨[x'l u],[-1],[-1],[]⟩,0,(bc,cc),gp,g',none),by dsimp only;exact⟨z'M _,by simp only[z'H,y'r];omega,z'w _,⟨rfl,rfl,by decide⟩,fun c hc=>by rw[y'E]at hc;rw[hc];exact h0,hall,hgc,hgp,hg'⟩⟩ ?_ ?_
 ·refine Weak.trans (Weak.perm Zp5) (z'v rfl ?_)
  simp[sub,upd]
 rintro⟨⟨S,i,⟨bc,cc⟩,gp,gb,gl⟩,hi,hSb,hS1,⟨hpa,hag,hed⟩,hrt,hE,hcc,hgp,hgb⟩
 dsimp only at hi hSb hS1 hpa hag hed hrt hE hcc hgp hgb⊢
 refine VC.nodup fun hn=>?_
 simp only[Heap.blocks,z'B,x'z,z'P,not_or]at hn
 obtain⟨⟨q1,q2,q3,_⟩,⟨q4,q5,_⟩,⟨q6,_⟩,_⟩:=hn
 rcases z'g i S.cf.length with hlt|hge
 case inr=>
  obtain rfl:i=S.cf.length:=by omega
  rw[Zlr (z'w _)]at hE
  have hG:=Zev hE (by omega)
  have cb:=Zfw (S.cf.length:Nat) (edS S) (by rw[Zc7];omega)
  rw[Zd1 (by omega) hG]at cb
  rw[hS0,hE0,hE]
  refine v'H (t:=13) rfl fun hgl=>?_
  repeat' first|refine vs T rfl fun K hK=>?_;(try simp (disch:=omega) only[go_sem,Nat.reduceBEq]);(first|refine hK _ _ ?_;clear hK K|skip)|refine st rfl ?_|refine sc rfl ?_|refine nl ?_|with_reducible refine z'j (fun hc=>?_) (fun hc=>?_)<;>(try simp only[decide_eq_true_eq,decide_eq_false_iff_not,z'm]at hc)<;>(try(exfalso;omega))
  refine Op1.callG (Hp:=shp gl 70 3 (Zam (edS S)).flatten []) (Hr:=(bq,.cells 34 6 (spD bc cc gp gb S.cf.length S.pa.length S.ag.length))::(b10,.cells 51 4 (cfC (x'l u)))::(b8,.cells 34 6 spZ)::(bc,.cells 51 (cc*4) (w'B S.cf).flatten)::shp gp 3 1 (S.pa.map iD) (shp gb 3 1 (S.ag.map iD) [])) rfl rfl rfl
   (Fun.lendF cb (z't (Fz.refl _ _) (z't (Zpb hgl fun b cap e=>by subst e;exact x'x) x'T))) (y'b fun a=>by simp only[z'V,y'f,z'6,y'a];omega) (fun d H' h=>?_)
  obtain⟨rfl,rfl⟩:=h
  refine hK _ _ ?_
  clear hK K
  simp only[z'T]
  repeat' first|refine vs T rfl fun K hK=>?_;(try simp (disch:=omega) only[go_sem,Nat.reduceBEq,Nat.reduceAdd,Nat.reduceLeDiff]);(first|refine hK _ _ ?_;clear hK K|intro bq hbq;(try simp only[HB]at hbq);refine hK _ _ ?_;clear hK K)|refine st rfl ?_|refine nl ?_
  exact x'g T rfl (by(try simp (disch:=omega) only[hget_ne,hget_eq]);rfl) rfl rfl rfl (z'p _) (Zpe hcc hgp hgb fun x hx=>z'd _ (z'd _ (z'd _ (z'd _ hx))))
 have hat:=w'7 (d:=(default:Cf)) hlt
 have hR:=hrt _ (x'w (d:=(default:Cf)) hlt)
 have cm:=ZgU hR
 rw[show B+1-i=(B-i)+1 by omega,ZmS hat]at hE
 have hml:=ZgJ (u:=u) (c:=S.cf.getD i default) (m:=m) (r:=r)
 generalize hM:x'4 u (S.cf.getD i default) m r=M at*
 repeat' first|refine dr (id:=14) T 8 (by kernel_rfl) ?_|refine gn ?_|(apply VCg.step T rfl rfl);focus((try simp (disch:=omega) only[go_sem,Nat.reduceBEq,Nat.reduceAdd,Nat.reduceLeDiff,y'O,w'e,z'f]);(first|exact rfl|refine⟨?_,rfl⟩;try omega))|refine vs T rfl fun K hK=>?_;(try simp (disch:=omega) only[go_sem,Nat.reduceBEq]);(first|refine hK _ _ ?_;clear hK K|refine Op1.callp rfl rfl (cm) rfl ?_;refine hK _ _ ?_;clear hK K)|refine st rfl ?_|refine sc rfl ?_|refine nl ?_|with_reducible refine z'j (fun hc=>?_) (fun hc=>?_)<;>(try simp only[decide_eq_true_eq,decide_eq_false_iff_not,z'm]at hc)<;>(try(exfalso;omega))
 rename_i hc0
 obtain⟨c,hcd⟩: ∃c,c=S.cf.getD i default:=⟨_,rfl⟩
 rw[←hcd]at hat hR hE cm
 refine VC.loop {p:Spc Cf×Nat×(Nat×Nat)×Option (Nat×Nat)×Option (Nat×Nat)×Option (Nat×Nat)//p.2.1≤M.length∧p.1.cf.length≤B∧(i<p.1.cf.length∧p.1.cf.getD i default=c)∧(p.1.pa.length=p.1.cf.length∧p.1.ag.length=p.1.cf.length∧p.1.ed.length≤28*i+p.2.1)∧(∀c,c∈p.1.cf→Rt u c m r)∧
   v'k u m r B=(v'C (fun c a=>actM u c m r a) B i c (M.drop p.2.1) p.1).bind (w'l (fun c=>x'4 u c m r) (fun c a=>actM u c m r a) B (B-i) (i+1))∧(p.1.cf.length≤p.2.2.1.2∧gOk p.2.2.2.1 p.1.pa.length∧gOk p.2.2.2.2.1 p.1.ag.length)}
  (fun p=>⟨z'J [(1,iD m),(2,iD r),(3,iD (B:Nat)),(4,.pt (unC u)),(8,pD b8),(12,pD bq),(13,.gs p.1.2.2.2.2.2 p.1.1.ed.length),(14,iD (i:Nat)),(15,z'C M),(16,iD (p.1.2.1:Nat))],
   (bq,.cells 34 6 (spD p.1.2.2.1.1 p.1.2.2.1.2 p.1.2.2.2.1 p.1.2.2.2.2.1 p.1.1.cf.length p.1.1.pa.length p.1.1.ag.length))::(b10,.cells 51 4 (cfC (x'l u)))::(b8,.cells 34 6 spZ)::spH p.1.2.2.1.1 p.1.2.2.1.2 p.1.2.2.2.1 p.1.2.2.2.2.1 p.1.2.2.2.2.2 p.1.1⟩)
  (fun p=>M.length-p.1.2.1) ⟨(S,0,(bc,cc),gp,gb,gl),by dsimp only;exact⟨z'M _,hSb,⟨hlt,hcd.symm⟩,⟨hpa,hag,by omega⟩,hrt,by rw[y'o];exact hE,⟨hcc,hgp,hgb⟩⟩⟩ ?_ ?_
 ·refine z'v rfl ?_
  simp[sub,upd]
 clear hat hlt hcd hE hrt hed hag hpa hS1 hSb hcc hgp hgb hi q1 q2 q3 q4 q5 q6 cm hc0
 rintro⟨⟨S',k,⟨bc,cc⟩,gp,gb,gl⟩,hk,hSb,⟨hlt,hcd⟩,⟨hpa,hag,hed⟩,hrt,hE,hcc,hgp,hgb⟩
 dsimp only at hk hSb hlt hcd hpa hag hed hrt hE hcc hgp hgb⊢
 refine VC.nodup fun hn=>?_
 simp only[Heap.blocks,z'B,x'z,z'P,not_or]at hn
 obtain⟨⟨q1,q2,q3,_⟩,⟨q4,q5,_⟩,⟨q6,_⟩,_⟩:=hn
 rcases z'g k M.length with hkl|hge
 case inr=>
  obtain rfl:k=M.length:=by omega
  rw[List.drop_length]at hE
  simp only[v'C,w'q]at hE
  repeat' first|refine vs T rfl fun K hK=>?_;(try simp (disch:=omega) only[go_sem,Nat.reduceBEq,z'k,w64]);(refine hK _ _ ?_;clear hK K)|refine st rfl ?_|refine sc rfl ?_|refine nl ?_|with_reducible refine z'j (fun hc=>?_) (fun hc=>?_)<;>(try simp only[decide_eq_true_eq,decide_eq_false_iff_not,z'm]at hc)<;>(try(exfalso;omega))
  refine⟨⟨(S',i+1,(bc,cc),gp,gb,gl),by dsimp only;exact⟨by omega,hSb,by omega,⟨hpa,hag,by omega⟩,hrt,by rw[hE,show B+1-(i+1)=B-i by omega],⟨hcc,hgp,hgb⟩⟩⟩,z'v rfl ?_,by dsimp only;omega⟩
  simp[sub,upd]
 obtain⟨a,ha⟩: ∃a,a=M.getD k 0:=⟨_,rfl⟩
 have had:M.drop k=a::M.drop (k+1):=by rw[ha,y'0 hkl,z'e,z'b hkl];rfl
 rw[had,Zln]at hE
 have ra:=ZmM hR a
 have hd:=hR.actM a
 have cf:=ZkH S'.cf ⟨[],[],[]⟩ S'.pa S'.ag (by omega) (fun c hc=>(hrt c hc).okC) (actM u c m r a) hd.okC
 generalize hD:actM u c m r a=d at*
 cases hx:Ze9 S'.cf d with
 |some j=>
  rw[hx]at cf
  simp only[plI]at cf
  have hst:stepA (fun c a=>actM u c m r a) B i c S' a=some {S' with ed:=S'.ed++[(i,a,j)]}:=by
   unfold stepA
   simp only[hD]
   rw[show S'.cf.idxOf? d=some j from hx]
  rw[hst,w'q]at hE
  repeat' first|apply VC.drawM (id:=18) T 18 16 17 (s:=17) (ty:=51) rfl rfl rfl (by kernel_rfl) (by kernel_rfl) (by kernel_rfl) (by kernel_rfl)|refine VCm.nil T ?_;simp only[y'4,WB,Nat.reduceAdd];try(refine fun(bq:Nat) hbq=>?_;(try simp only[HB]at hbq))|apply VCm.step T (by rfl) (by rfl) rfl rfl;focus((try simp (disch:=omega) only[go_sem,Nat.reduceBEq,Nat.reduceAdd,Nat.reduceLeDiff,y'w,y'O,w'e,z'f,hcd, ←ha]);(first|exact rfl|refine⟨?_,rfl⟩;try omega|refine Op1.callp rfl rfl (ra) rfl ?_;exact⟨rfl,rfl⟩))|apply VCm.alloc T;(case h1=>rfl);(case hg=>rfl);(case hop=>rfl);(case hd=>rfl);(case hk=>rfl);(case hz=>rfl)|apply VCm.store T;(case h1=>rfl);(case h2=>rfl);(case hg=>rfl);(case hd=>rfl);(case hc=>(intro b hb;(try simp (disch:=omega) only[go_sem,Nat.reduceBEq,Nat.reduceAdd,Nat.reduceLeDiff]);exact rfl));(case hz=>(rfl))|refine vs T rfl fun K hK=>?_;(try simp (disch:=omega) only[go_sem,Nat.reduceBEq,Nat.reduceAdd,Nat.reduceMul,Nat.reduceLeDiff,z'k,y'w,z'f, ←ha,w64]);(first|refine hK _ _ ?_;clear hK K|refine⟨_,_,_,_,(by repeat (first|exact Sp.here|apply Sp.cons|apply Sp.over)),?_,(by exact⟨rfl,rfl⟩),?_,fun g' hg'=>hK _ _ ?_⟩<;>clear hK K|refine⟨?_,hK _ _ ?_⟩<;>clear hK K;focus(try omega)|refine Op1.lend rfl rfl (cf) (z't (Zbk hcc hgp hgb (fun x hx=>z'd _ (z'd _ (z'd _ (z'd _ hx))))) (FzL.refl _ _)) (.inr rfl) ?_;refine hK _ _ ?_;clear hK K)|refine st rfl ?_|refine sc rfl ?_|refine nl ?_|refine ov ?_|with_reducible refine z'j (fun hc=>?_) (fun hc=>?_)<;>(try simp only[decide_eq_true_eq,decide_eq_false_iff_not,z'm]at hc)<;>(try(exfalso;omega))
  ·rw[Zc6,Zc7]
  ·omega
  ·refine⟨⟨({S' with ed:=S'.ed++[(i,a,j)]},k+1,(bc,cc),gp,gb,g'),by dsimp only;exact⟨by omega,hSb,⟨hlt,hcd⟩,⟨hpa,hag,by simp only[z'o,z'H,y'r];omega⟩,hrt,hE,⟨hcc,hgp,hgb⟩⟩⟩,w'd ?_ ?_,by dsimp only;omega⟩
   ·dsimp only
    simp only[spH,Zhw,Zch]
    rfl
   ·simp[sub,upd]
 |none=>
  rw[hx]at cf
  simp only[plI]at cf
  rcases z'g S'.cf.length B with hB|hB
  case inr=>
   have hst:stepA (fun c a=>actM u c m r a) B i c S' a=none:=by
    unfold stepA
    simp only[hD]
    rw[show S'.cf.idxOf? d=none from hx]
    simp only[decide_eq_false (Nat.not_lt.2 hB)]
   rw[hst]at hE
   simp only[Option.bind_none]at hE
   repeat' first|apply VC.drawM (id:=18) T 18 16 17 (s:=17) (ty:=51) rfl rfl rfl (by kernel_rfl) (by kernel_rfl) (by kernel_rfl) (by kernel_rfl)|refine VCm.nil T ?_;simp only[y'4,WB,Nat.reduceAdd];try(refine fun(bq:Nat) hbq=>?_;(try simp only[HB]at hbq))|apply VCm.step T (by rfl) (by rfl) rfl rfl;focus((try simp (disch:=omega) only[go_sem,Nat.reduceBEq,Nat.reduceAdd,Nat.reduceLeDiff,y'w,y'O,w'e,z'f,hcd, ←ha]);(first|exact rfl|refine⟨?_,rfl⟩;try omega|refine Op1.callp rfl rfl (ra) rfl ?_;exact⟨rfl,rfl⟩))|apply VCm.alloc T;(case h1=>rfl);(case hg=>rfl);(case hop=>rfl);(case hd=>rfl);(case hk=>rfl);(case hz=>rfl)|apply VCm.store T;(case h1=>rfl);(case h2=>rfl);(case hg=>rfl);(case hd=>rfl);(case hc=>(intro b hb;(try simp (disch:=omega) only[go_sem,Nat.reduceBEq,Nat.reduceAdd,Nat.reduceLeDiff]);exact rfl));(case hz=>(rfl))|refine vs T rfl fun K hK=>?_;(try simp (disch:=omega) only[go_sem,Nat.reduceBEq,Nat.reduceAdd,Nat.reduceLeDiff,z'k]);(first|refine hK _ _ ?_;clear hK K|refine Op1.lend rfl rfl (cf) (z't (Zbk hcc hgp hgb (fun x hx=>z'd _ (z'd _ (z'd _ (z'd _ hx))))) (FzL.refl _ _)) (.inr rfl) ?_;refine hK _ _ ?_;clear hK K)|refine st rfl ?_|refine sc rfl ?_|refine nl ?_|refine ov ?_|with_reducible refine z'j (fun hc=>?_) (fun hc=>?_)<;>(try simp only[decide_eq_true_eq,decide_eq_false_iff_not,ge_iff_le,y'e,z'm]at hc)<;>(try(exfalso;omega))
   rw[hS0,hE0,hE]
   exact x'g T rfl (by(try simp (disch:=omega) only[hget_ne,hget_eq]);rfl) rfl rfl rfl (z'a _) ZhB
  have hst:stepA (fun c a=>actM u c m r a) B i c S' a=some ⟨S'.cf++[d],S'.pa++[(i:Int)],S'.ag++[a],S'.ed++[(i,a,S'.cf.length)]⟩:=by
   unfold stepA
   simp only[hD]
   rw[show S'.cf.idxOf? d=none from hx]
   simp only[decide_eq_true hB]
  rw[hst,w'q]at hE
  repeat' first|refine dr (id:=26) T 7 (by kernel_rfl) ?_|apply VC.drawM (id:=18) T 18 16 17 (s:=17) (ty:=51) rfl rfl rfl (by kernel_rfl) (by kernel_rfl) (by kernel_rfl) (by kernel_rfl)|refine VCm.nil T ?_;simp only[y'4,WB,Nat.reduceAdd];try(refine fun(bq:Nat) hbq=>?_;(try simp only[HB]at hbq))|apply VCm.step T (by rfl) (by rfl) rfl rfl;focus((try simp (disch:=omega) only[go_sem,Nat.reduceBEq,Nat.reduceAdd,Nat.reduceLeDiff,y'w,y'O,w'e,z'f,hcd, ←ha]);(first|exact rfl|refine⟨?_,rfl⟩;try omega|refine Op1.callp rfl rfl (ra) rfl ?_;exact⟨rfl,rfl⟩))|apply VCm.alloc T;(case h1=>rfl);(case hg=>rfl);(case hop=>rfl);(case hd=>rfl);(case hk=>rfl);(case hz=>rfl)|apply VCm.store T;(case h1=>rfl);(case h2=>rfl);(case hg=>rfl);(case hd=>rfl);(case hc=>(intro b hb;(try simp (disch:=omega) only[go_sem,Nat.reduceBEq,Nat.reduceAdd,Nat.reduceLeDiff]);exact rfl));(case hz=>(rfl))|refine gn ?_|(first|apply VCg.step T rfl rfl|apply exF);focus((try simp (disch:=omega) only[go_sem,Nat.reduceBEq,Nat.reduceMul,Nat.reduceLeDiff,y'w,z'f, ←ha]);(first|exact rfl|refine⟨?_,rfl⟩;try omega))|refine vs T rfl fun K hK=>?_;(try simp (disch:=omega) only[go_sem,Nat.reduceBEq,Nat.reduceAdd,Nat.reduceMul,Nat.reduceLeDiff,z'k,y'w,z'f, ←ha,w64]);(first|refine hK _ _ ?_;clear hK K|refine⟨_,_,_,_,(by repeat (first|exact Sp.here|apply Sp.cons|apply Sp.over)),?_,(by exact⟨rfl,rfl⟩),⟨by decide,?_⟩,fun g' hg'=>hK _ _ ?_⟩<;>clear hK K|refine⟨_,_,_,_,(by repeat (first|exact Sp.here|exact Sp.hereS|apply Sp.cons|apply Sp.over)),?_,(by exact⟨rfl,rfl⟩),?_,fun g' hg'=>hK _ _ ?_⟩<;>clear hK K|refine⟨?_,hK _ _ ?_⟩<;>clear hK K;focus(try omega)|refine Op1.lend rfl rfl (cf) (z't (Zbk hcc hgp hgb (fun x hx=>z'd _ (z'd _ (z'd _ (z'd _ hx))))) (FzL.refl _ _)) (.inr rfl) ?_;refine hK _ _ ?_;clear hK K)|refine st rfl ?_|refine sc rfl ?_|refine nl ?_|refine ov ?_|with_reducible refine z'j (fun hc=>?_) (fun hc=>?_)<;>(try simp only[decide_eq_true_eq,decide_eq_false_iff_not,ge_iff_le,y'e,z'm]at hc)<;>(try(exfalso;omega))
  ·exact y'O _
  ·omega
  ·simp
  ·omega
  ·simp
  ·omega
  ·rw[Zc6,Zc7]
  ·omega
  rename_i gc' hgc' gp' hgp' gb' hgb'
  rcases gc' with _|⟨bc',cc'⟩
  ·cases hgc'
  refine⟨⟨(⟨S'.cf++[d],S'.pa++[(i:Int)],S'.ag++[a],S'.ed++[(i,a,S'.cf.length)]⟩,k+1,(bc',cc'),gp',gb',g'),?_⟩,w'd ?_ ?_,by dsimp only;omega⟩
  ·dsimp only
   simp only[z'o,z'H,y'r,y'y]
   refine⟨by omega,by omega,⟨by omega,?_⟩,⟨by omega,by omega,by omega⟩,?_,hE,hgc',hgp',hgb'⟩
   ·rw[←hcd,z'e,z'9 hlt,z'e]
   ·intro x hx
    rcases y'g.1 hx with hx|hx
    ·exact hrt x hx
    ·rw[y'E]at hx;rw[hx];exact hd
  ·dsimp only
   simp only[spH,Zhw,Zch,Zhr,z'E,z'B,x'y,z'o,z'H,y'r,y'y]
   rfl
  ·simp[sub,upd]
end Go.Proofs.YtfneeacgkdhldaaGreat
