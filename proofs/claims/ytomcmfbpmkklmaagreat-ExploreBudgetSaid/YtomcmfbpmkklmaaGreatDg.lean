/- Contracts: the reference finds all that can be reached. No condition. -/
import Derived.Test.YtomcmfbpmkklmaaGreatDf
import Derived.Test.YtomcmfbpmkklmaaGreatSa
import Derived.Test.YtomcmfbpmkklmaaGreatRt
namespace Go.Proofs.YtomcmfbpmkklmaaGreat
set_option maxHeartbeats 16000000
set_option linter.unusedSimpArgs false
set_option linter.unusedVariables false
set_option maxRecDepth 20000
open Go Go.Proofs Go.Vc
attribute [local irreducible] y'0 VCg VCw VCx
theorem Zhb {a b:Cf}:x'3 a b=true↔a=b:=⟨fun h=>(Zmr h).symm,fun h=>by subst h;exact ZbS a⟩
theorem Zev (C:List Cf) (g:Cs) (P B:List Int) (hl:C.length≤1000000) (hC: ∀c,c∈C→OkC c) (c:Cf) (hc:OkC c):Pure Tryz.prog 45 [.agg (spC C g P B),.agg (cfC c)] (iD (plI (w'u C c))):=by
 refine Fun.of T [.tmp 4] Tryz.func45 rfl Tryz.ntmps45 Tryz.results45 rfl (by kernel_rfl) ?_
 repeat' first|refine vb (t:=34) rfl rfl rfl rfl ?_|refine vb (t:=43) rfl rfl rfl rfl ?_|refine vs T rfl fun K hK=>?_;(try simp (disch:=omega) only[go_sem]);(refine hK _ _ ?_;clear hK K)|refine st rfl ?_|refine nl ?_
 refine VC.loop {k:Nat//k≤C.length∧ ∀i,i<k→C[i]?≠some c} (fun p=>⟨z'M [(2,.pt (spC C g P B)),(3,.pt (cfC c)),(5,iD (p.1:Nat))],[]⟩) (fun p=>C.length-p.1) ⟨0,by omega,fun i hi=>by omega⟩ ?_ ?_
 ·refine Weak.sub ?_
  simp[sub,upd]
 rintro⟨k,hk,hs⟩
 dsimp only
 rcases z'g k C.length with hlt|hge
 case inr=>
  obtain rfl:k=C.length:=by omega
  rw[Zlm hs]
  repeat' first|refine vs T rfl fun K hK=>?_;(try simp (disch:=omega) only[go_sem,Nat.reduceBEq,y'M]);(refine hK _ _ ?_;clear hK K)|refine st rfl ?_|refine sc rfl ?_|refine nl ?_|exact z'j T (z'a _) ⟨rfl,rfl⟩|with_reducible refine z's (fun hc=>?_) (fun hc=>?_)<;>(try simp only[decide_eq_true_eq,decide_eq_false_iff_not,z'u]at hc)<;>(try(exfalso;omega))
 have hat:=ZaH (d:=(default:Cf)) hlt
 have cs:=ZfZ (C.getD k default) c (hC _ (w'w hlt)) hc
 cases h:x'3 (C.getD k default) c with
 |true=>
  rw[h]at cs
  rw[Zit (by rw[hat,Zhb.1 h]) hs]
  repeat' first|refine dr (id:=4) T 6 (by kernel_rfl) ?_|refine gn ?_|apply VCg.step T rfl rfl;focus((try simp (disch:=omega) only[go_sem,Nat.reduceBEq,Nat.reduceAdd,Nat.reduceLeDiff,v'M,z'o]);(first|exact rfl|refine⟨?_,rfl⟩;try omega))|refine vs T rfl fun K hK=>?_;(try simp (disch:=omega) only[go_sem,Nat.reduceBEq,y'M]);(first|refine hK _ _ ?_;clear hK K|refine Op1.callp rfl rfl (cs) rfl ?_;refine hK _ _ ?_;clear hK K)|refine st rfl ?_|refine sc rfl ?_|refine nl ?_|exact z'j T (z'a _) ⟨rfl,rfl⟩|with_reducible refine z's (fun hc=>?_) (fun hc=>?_)<;>(try simp only[decide_eq_true_eq,decide_eq_false_iff_not,z'u]at hc)<;>(try(exfalso;omega))
 |false=>
  rw[h]at cs
  repeat' first|refine dr (id:=4) T 6 (by kernel_rfl) ?_|refine gn ?_|apply VCg.step T rfl rfl;focus((try simp (disch:=omega) only[go_sem,Nat.reduceBEq,Nat.reduceAdd,Nat.reduceLeDiff,v'M,z'o]);(first|exact rfl|refine⟨?_,rfl⟩;try omega))|refine vs T rfl fun K hK=>?_;(try simp (disch:=omega) only[go_sem,Nat.reduceBEq,y'M,w64]);(first|refine hK _ _ ?_;clear hK K|refine Op1.callp rfl rfl (cs) rfl ?_;refine hK _ _ ?_;clear hK K)|refine st rfl ?_|refine sc rfl ?_|refine nl ?_|with_reducible refine z's (fun hc=>?_) (fun hc=>?_)<;>(try simp only[decide_eq_true_eq,decide_eq_false_iff_not,z'u]at hc)<;>(try(exfalso;omega))
  refine⟨⟨k+1,by omega,fun i hi=>?_⟩,Weak.sub ?_,by simp only[];omega⟩
  ·rcases z'g i k with h'|h'
   ·exact hs i h'
   ·obtain rfl:i=k:=by omega
    rw[hat]
    rintro e
    rw[y'n e,ZbS]at h
    cases h
  ·simp[sub,upd]
def w'i (m r b:Int):Bool:=(decide (1≤m)&&decide (m≤3))&&((decide (1≤r)&&decide (r≤4))&&(decide (1≤b)&&decide (b≤100000)))
def x'b (u:Un) (m r b:Int):Int:=match z'8 u,w'i m r b with
 |false,_=>8
 |true,false=>1
 |true,true=>match w'h u m r b with
  |some _=>0
  |none=>18
def spR (u:Un) (m r b:Int):List D:=match z'8 u&&w'i m r b with
 |true=>match w'h u m r b with
  |some S=>spA S
  |none=>spC [] ⟨[],[],[]⟩ [] []
 |false=>spC [] ⟨[],[],[]⟩ [] []
abbrev spZ:List D:=[.gs none 0,.gs none 0,.gs none 0,.gs none 0,.gs none 0,.gs none 0]
theorem Zgf {H:Heap} {a:D}:Fz H (.tup [.agg (spC [] ⟨[],[],[]⟩ [] []),a]) (.tup [.agg spZ,a]):=
 ⟨_,rfl,z'E ⟨_,rfl,z'E y'v (z'E y'v (z'E y'v (z'E y'v (z'E y'v (z'E y'v w't)))))⟩ (FzL.refl _ _)⟩
theorem Zm4 (u:Un) (hu:OkU u) (m r b:Int) (hU:z'8 u=false):Pure Tryz.prog 16 [.agg (unC u),iD m,iD r,iD b] (.tup [.agg (spR u m r b),iD (x'b u m r b)]):=by
 have cs:=Zep u hu
 have cs:Pure Tryz.prog 61 [.agg (unC u)] (.tup [.agg (cfC cf0),iD 8]):=by rwa [show v'U u=cf0 by simp[v'U,hU],show v'T u=8 by simp[v'T,hU]]at cs
 have e1:spR u m r b=spC [] ⟨[],[],[]⟩ [] []:=by simp[spR,hU]
 have e2:x'b u m r b=8:=by simp[x'b,hU]
 rw[e1,e2]
 refine Fun.fz ?_
 refine Fun.of T [.cell 8 34,.tmp 9] Tryz.func16 rfl Tryz.ntmps16 Tryz.results16 rfl (by kernel_rfl) ?_
 repeat' first|refine vb (t:=25) rfl rfl rfl rfl ?_|refine vs T rfl fun K hK=>?_;(try simp (disch:=omega) only[go_sem,Nat.reduceBEq,Nat.reduceAdd,Nat.reduceLeDiff]);(first|refine hK _ _ ?_;clear hK K|intro bq hbq;(try simp only[HB]at hbq);refine hK _ _ ?_;clear hK K|refine Op1.callp rfl rfl (cs) rfl ?_;refine hK _ _ ?_;clear hK K)|refine st rfl ?_|refine sc rfl ?_|refine nl ?_
 rename_i b8 hb8
 have n1: ¬bq=b8:=hbq
 exact y'T T rfl (by(try simp (disch:=omega) only[hget_ne,hget_eq]);rfl) rfl rfl rfl (z'a _) Zgf
theorem Zmd (u:Un) (hu:OkU u) (m r b:Int) (hU:z'8 u=true) (hA:w'i m r b=false):Pure Tryz.prog 16 [.agg (unC u),iD m,iD r,iD b] (.tup [.agg (spR u m r b),iD (x'b u m r b)]):=by
 have cs:=Zep u hu
 have cs:Pure Tryz.prog 61 [.agg (unC u)] (.tup [.agg (cfC (y'E u)),iD 0]):=by rwa [show v'U u=y'E u by simp[v'U,hU],show v'T u=0 by simp[v'T,hU]]at cs
 have e1:spR u m r b=spC [] ⟨[],[],[]⟩ [] []:=by simp[spR,hU,hA]
 have e2:x'b u m r b=1:=by simp[x'b,hU,hA]
 have hA': ¬(1≤m∧m≤3∧1≤r∧r≤4∧1≤b∧b≤100000):=fun h=>by
  have:w'i m r b=true:=by simp only[w'i,z'h,decide_eq_true_eq];omega
  rw[this]at hA;cases hA
 rw[e1,e2]
 refine Fun.fz ?_
 refine Fun.of T [.cell 8 34,.tmp 9] Tryz.func16 rfl Tryz.ntmps16 Tryz.results16 rfl (by kernel_rfl) ?_
 repeat' first|refine vb (t:=25) rfl rfl rfl rfl ?_|refine vs T rfl fun K hK=>?_;(try simp (disch:=omega) only[go_sem,Nat.reduceBEq,Nat.reduceAdd,Nat.reduceLeDiff]);(first|refine hK _ _ ?_;clear hK K|intro bq hbq;(try simp only[HB]at hbq);refine hK _ _ ?_;clear hK K|refine Op1.callp rfl rfl (cs) rfl ?_;refine hK _ _ ?_;clear hK K)|refine st rfl ?_|refine sc rfl ?_|refine nl ?_|refine gs rfl rfl ?_|with_reducible refine z's (fun hc=>?_) (fun hc=>?_)<;>(try simp only[decide_eq_true_eq,decide_eq_false_iff_not,gt_iff_lt,z'u]at hc)<;>(try(exfalso;omega))
 all_goals(exact y'T T rfl (by(try simp (disch:=omega) only[hget_ne,hget_eq]);rfl) rfl rfl rfl (z'a _) Zgf)
abbrev spD (bc cc:Nat) (gp gb:Option (Nat×Nat)) (n1 n2 n3:Nat):List D:=[.gs (some (bc,cc)) n1,.gs none 0,.gs none 0,.gs none 0,.gs gp n2,.gs gb n3]
abbrev spH (bc cc:Nat) (gp gb gl:Option (Nat×Nat)) (S:Spc Cf):Heap:=
 (bc,.cells 43 (cc*4) (x'I S.cf).flatten)::shp gp 3 1 (S.pa.map iD) (shp gb 3 1 (S.ag.map iD) (shp gl 62 3 (Zat (edS S)).flatten []))
theorem Zey {C:List Cf} {i:Nat} (h:i<C.length):((x'I C).flatten.drop (i*4)).take 4=cfC (C.getD i default):=by
 induction C generalizing i with
 |nil=>simp at h
 |cons c C ih=>
  cases i with
  |zero=>rfl
  |succ i=>
   have:(x'I (c::C)).flatten=cfC c++(x'I C).flatten:=rfl
   rw[this,show(i+1)*4=(cfC c).length+i*4 by simp;omega,List.drop_length_add_append,ih (by simpa using h)]
   simp
theorem Ziw {bc cc:Nat} {gp gb gl:Option (Nat×Nat)} {S:Spc Cf} {H:Heap} (h1:S.cf.length≤cc) (h2:gOk gp S.pa.length) (h3:gOk gb S.ag.length) (hm: ∀x,x∈spH bc cc gp gb gl S→x∈H):
  Fz H (.agg (spC S.cf ⟨[],[],[]⟩ S.pa S.ag)) (.agg (spD bc cc gp gb S.cf.length S.pa.length S.ag.length)):=by
 have z1:Fz H (.sl false 4 (x'I S.cf)) (.gs (some (bc,cc)) S.cf.length):=ZaS (e:=43) (y'M S.cf).symm h1 (fun b c e=>by cases e;exact hm _ (z'C ..)) (FzR.refl _ _ (Zfk _))
 have z2:=x'4 (e:=3) (s:=S.pa) (H:=H) h2 fun b c e=>hm _ (z'e _ (by subst e;exact x'k))
 have z3:=x'4 (e:=3) (s:=S.ag) (H:=H) h3 fun b c e=>hm _ (z'e _ (v'b (by subst e;exact x'k)))
 exact⟨_,rfl,z'E z1 (z'E y'v (z'E y'v (z'E y'v (z'E z2 (z'E z3 w't)))))⟩
theorem Zld {bc cc:Nat} {gp gb:Option (Nat×Nat)} {S:Spc Cf} {g:Cs} {H:Heap} {a:D} (h1:S.cf.length≤cc) (h2:gOk gp S.pa.length) (h3:gOk gb S.ag.length) (hm: ∀x,x∈(bc,HC.cells 43 (cc*4) (x'I S.cf).flatten)::shp gp 3 1 (S.pa.map iD) (shp gb 3 1 (S.ag.map iD) [])→x∈H):
  Fz H (.tup [.agg (spC S.cf g S.pa S.ag),a]) (.tup [.agg [.gs (some (bc,cc)) S.cf.length,z'S g.st,z'S g.ag,z'S g.to,.gs gp S.pa.length,.gs gb S.ag.length],a]):=by
 have z1:Fz H (.sl false 4 (x'I S.cf)) (.gs (some (bc,cc)) S.cf.length):=ZaS (e:=43) (y'M S.cf).symm h1 (fun b c e=>by cases e;exact hm _ (z'C ..)) (FzR.refl _ _ (Zfk _))
 have z2:=x'4 (e:=3) (s:=S.pa) (H:=H) h2 fun b c e=>hm _ (z'e _ (by subst e;exact x'k))
 have z3:=x'4 (e:=3) (s:=S.ag) (H:=H) h3 fun b c e=>hm _ (z'e _ (v'b (by subst e;exact x'k)))
 exact⟨_,rfl,z'E ⟨_,rfl,z'E z1 (z'E (Fz.refl _ _) (z'E (Fz.refl _ _) (z'E (Fz.refl _ _) (z'E z2 (z'E z3 w't)))))⟩ (FzL.refl _ _)⟩
theorem Zle {gl:Option (Nat×Nat)} {S:Spc Cf} {H:Heap} (hg:gOk gl S.ed.length) (hm: ∀b cap,gl=some (b,cap)→(b,HC.cells 62 (cap*3) (Zat (edS S)).flatten)∈H):Fz H (v'p (edS S)) (.gs gl S.ed.length):=
 ZaS (e:=62) (by rw[w'7,Zby]) hg hm (FzR.refl _ _ (Zfv _))
theorem ZnP (u:Un) (hu:OkU u) (m r b:Int) (hU:z'8 u=true) (hA:w'i m r b=true) (hb:b≤1000):Pure Tryz.prog 16 [.agg (unC u),iD m,iD r,iD b] (.tup [.agg (spR u m r b),iD (x'b u m r b)]):=by
 have cs:=Zep u hu
 have cs:Pure Tryz.prog 61 [.agg (unC u)] (.tup [.agg (cfC (y'E u)),iD 0]):=by rwa [show v'U u=y'E u by simp[v'U,hU],show v'T u=0 by simp[v'T,hU]]at cs
 have hA':=hA
 simp only[w'i,z'h,decide_eq_true_eq]at hA'
 have h0:=v'l hu hU hA'.1 hA'.2.1
 refine Fun.fz ?_
 refine Fun.of T [.cell 8 34,.tmp 9] Tryz.func16 rfl Tryz.ntmps16 Tryz.results16 rfl (by kernel_rfl) ?_
 repeat' first|refine vb (t:=25) rfl rfl rfl rfl ?_|refine vs T rfl fun K hK=>?_;(try simp (disch:=omega) only[go_sem,Nat.reduceBEq,Nat.reduceAdd,Nat.reduceMul,Nat.reduceLeDiff]);(first|refine hK _ _ ?_;clear hK K|refine⟨_,_,_,_,(by repeat (first|apply Sp.cons|exact Sp.nil)),?_,(by exact⟨rfl,rfl⟩),⟨by decide,?_⟩,fun g' hg'=>hK _ _ ?_⟩<;>clear hK K|refine⟨_,_,_,_,(by repeat (first|apply Sp.cons|exact Sp.nil)),?_,(by exact⟨rfl,rfl⟩),?_,fun g' hg'=>hK _ _ ?_⟩<;>clear hK K|intro bq hbq;(try simp only[HB]at hbq);refine hK _ _ ?_;clear hK K|refine Op1.callp rfl rfl (cs) rfl ?_;refine hK _ _ ?_;clear hK K)|refine st rfl ?_|refine sc rfl ?_|refine nl ?_|refine gs rfl rfl ?_|with_reducible refine z's (fun hc=>?_) (fun hc=>?_)<;>(try simp only[decide_eq_true_eq,decide_eq_false_iff_not,gt_iff_lt,z'u]at hc)<;>(try(exfalso;omega))
 ·rfl
 ·decide
 ·rfl
 ·decide
 ·rfl
 ·decide
 rename_i b8 t8 b10 h10 c1 c2 c3 c4 c5 gc hgc gp hgp
 have hE0:x'b u m r b=match w'h u m r b with|some _=>0|none=>18:=by simp only[x'b,hU,hA]
 have hS0:spR u m r b=match w'h u m r b with|some S=>spA S|none=>spC [] ⟨[],[],[]⟩ [] []:=by simp only[spR,hU,hA,w'C]
 rcases gc with _|⟨bc,cc⟩
 ·cases hgc
 have hall:w'h u m r b=w'g (fun c=>y'6 u c m r) (fun c a=>actM u c m r a) b.toNat (b.toNat+1) 0 ⟨[y'E u],[-1],[-1],[]⟩:=rfl
 obtain⟨B,rfl⟩: ∃B:Nat,b=(B:Int):=⟨b.toNat,by omega⟩
 rw[z'o]at hall
 refine VC.loop {p:Spc Cf×Nat×(Nat×Nat)×Option (Nat×Nat)×Option (Nat×Nat)×Option (Nat×Nat)//p.2.1≤p.1.cf.length∧p.1.cf.length≤B∧1≤p.1.cf.length∧(p.1.pa.length=p.1.cf.length∧p.1.ag.length=p.1.cf.length∧p.1.ed.length≤28*p.2.1)∧(∀c,c∈p.1.cf→Rt u c m r)∧
   w'h u m r B=w'g (fun c=>y'6 u c m r) (fun c a=>actM u c m r a) B (B+1-p.2.1) p.2.1 p.1∧(p.1.cf.length≤p.2.2.1.2∧gOk p.2.2.2.1 p.1.pa.length∧gOk p.2.2.2.2.1 p.1.ag.length)}
  (fun p=>⟨z'M [(1,iD m),(2,iD r),(3,iD (B:Nat)),(4,.pt (unC u)),(8,pD b8),(12,pD bq),(13,.gs p.1.2.2.2.2.2 p.1.1.ed.length),(14,iD (p.1.2.1:Nat))],
   (bq,.cells 34 6 (spD p.1.2.2.1.1 p.1.2.2.1.2 p.1.2.2.2.1 p.1.2.2.2.2.1 p.1.1.cf.length p.1.1.pa.length p.1.1.ag.length))::(b10,.cells 43 4 (cfC (y'E u)))::(b8,.cells 34 6 spZ)::spH p.1.2.2.1.1 p.1.2.2.1.2 p.1.2.2.2.1 p.1.2.2.2.2.1 p.1.2.2.2.2.2 p.1.1⟩)
  (fun p=>B+1-p.1.2.1) ⟨(⟨[y'E u],[-1],[-1],[]⟩,0,(bc,cc),gp,g',none),by dsimp only;exact⟨z'6 _,by simp only[z'D,z'5];omega,z'v _,⟨rfl,rfl,by decide⟩,fun c hc=>by rw[x'g]at hc;rw[hc];exact h0,hall,hgc,hgp,hg'⟩⟩ ?_ ?_
 ·refine Weak.trans (Weak.perm Zql) (z'G rfl ?_)
  simp[sub,upd]
 rintro⟨⟨S,i,⟨bc,cc⟩,gp,gb,gl⟩,hi,hSb,hS1,⟨hpa,hag,hed⟩,hrt,hE,hcc,hgp,hgb⟩
 dsimp only at hi hSb hS1 hpa hag hed hrt hE hcc hgp hgb⊢
 refine VC.nodup fun hn=>?_
 simp only[Heap.blocks,z'z,x'A,z'L,not_or]at hn
 obtain⟨⟨q1,q2,q3,_⟩,⟨q4,q5,_⟩,⟨q6,_⟩,_⟩:=hn
 rcases z'g i S.cf.length with hlt|hge
 case inr=>
  obtain rfl:i=S.cf.length:=by omega
  rw[Zhd (z'v _)]at hE
  have hG:=Zfe hE (by omega)
  have cb:=Zku (S.cf.length:Nat) (edS S) (by rw[Zby];omega)
  rw[ZhC (by omega) hG]at cb
  rw[hS0,hE0,hE]
  refine v'4 (t:=13) rfl fun hgl=>?_
  repeat' first|refine vs T rfl fun K hK=>?_;(try simp (disch:=omega) only[go_sem,Nat.reduceBEq]);(first|refine hK _ _ ?_;clear hK K|skip)|refine st rfl ?_|refine sc rfl ?_|refine nl ?_|with_reducible refine z's (fun hc=>?_) (fun hc=>?_)<;>(try simp only[decide_eq_true_eq,decide_eq_false_iff_not,z'u]at hc)<;>(try(exfalso;omega))
  refine Op1.callG (Hp:=shp gl 62 3 (Zat (edS S)).flatten []) (Hr:=(bq,.cells 34 6 (spD bc cc gp gb S.cf.length S.pa.length S.ag.length))::(b10,.cells 43 4 (cfC (y'E u)))::(b8,.cells 34 6 spZ)::(bc,.cells 43 (cc*4) (x'I S.cf).flatten)::shp gp 3 1 (S.pa.map iD) (shp gb 3 1 (S.ag.map iD) [])) rfl rfl rfl
   (Fun.lendF cb (z'E (Fz.refl _ _) (z'E (Zle hgl fun b cap e=>by subst e;exact x'k) w't))) (y'e fun a=>by simp only[z'2,y'l,y'a,y'c];omega) (fun d H' h=>?_)
  obtain⟨rfl,rfl⟩:=h
  refine hK _ _ ?_
  clear hK K
  simp only[z'N]
  repeat' first|refine vs T rfl fun K hK=>?_;(try simp (disch:=omega) only[go_sem,Nat.reduceBEq,Nat.reduceAdd,Nat.reduceLeDiff]);(first|refine hK _ _ ?_;clear hK K|intro bq hbq;(try simp only[HB]at hbq);refine hK _ _ ?_;clear hK K)|refine st rfl ?_|refine nl ?_
  exact y'T T rfl (by(try simp (disch:=omega) only[hget_ne,hget_eq]);rfl) rfl rfl rfl (z'm _) (Zld hcc hgp hgb fun x hx=>z'e _ (z'e _ (z'e _ (z'e _ hx))))
 have hat:=ZaH (d:=(default:Cf)) hlt
 have hR:=hrt _ (w'w (d:=(default:Cf)) hlt)
 have cm:=ZeG hR
 rw[show B+1-i=(B-i)+1 by omega,Zij hat]at hE
 have hml:=Zcu (u:=u) (c:=S.cf.getD i default) (m:=m) (r:=r)
 generalize hM:y'6 u (S.cf.getD i default) m r=M at*
 repeat' first|refine dr (id:=14) T 8 (by kernel_rfl) ?_|refine gn ?_|(apply VCg.step T rfl rfl);focus((try simp (disch:=omega) only[go_sem,Nat.reduceBEq,Nat.reduceAdd,Nat.reduceLeDiff,Zaa,Zey,z'o]);(first|exact rfl|refine⟨?_,rfl⟩;try omega))|refine vs T rfl fun K hK=>?_;(try simp (disch:=omega) only[go_sem,Nat.reduceBEq]);(first|refine hK _ _ ?_;clear hK K|refine Op1.callp rfl rfl (cm) rfl ?_;refine hK _ _ ?_;clear hK K)|refine st rfl ?_|refine sc rfl ?_|refine nl ?_|with_reducible refine z's (fun hc=>?_) (fun hc=>?_)<;>(try simp only[decide_eq_true_eq,decide_eq_false_iff_not,z'u]at hc)<;>(try(exfalso;omega))
 rename_i hc0
 obtain⟨c,hcd⟩: ∃c,c=S.cf.getD i default:=⟨_,rfl⟩
 rw[←hcd]at hat hR hE cm
 refine VC.loop {p:Spc Cf×Nat×(Nat×Nat)×Option (Nat×Nat)×Option (Nat×Nat)×Option (Nat×Nat)//p.2.1≤M.length∧p.1.cf.length≤B∧(i<p.1.cf.length∧p.1.cf.getD i default=c)∧(p.1.pa.length=p.1.cf.length∧p.1.ag.length=p.1.cf.length∧p.1.ed.length≤28*i+p.2.1)∧(∀c,c∈p.1.cf→Rt u c m r)∧
   w'h u m r B=(v'F (fun c a=>actM u c m r a) B i c (M.drop p.2.1) p.1).bind (w'g (fun c=>y'6 u c m r) (fun c a=>actM u c m r a) B (B-i) (i+1))∧(p.1.cf.length≤p.2.2.1.2∧gOk p.2.2.2.1 p.1.pa.length∧gOk p.2.2.2.2.1 p.1.ag.length)}
  (fun p=>⟨z'M [(1,iD m),(2,iD r),(3,iD (B:Nat)),(4,.pt (unC u)),(8,pD b8),(12,pD bq),(13,.gs p.1.2.2.2.2.2 p.1.1.ed.length),(14,iD (i:Nat)),(15,z'S M),(16,iD (p.1.2.1:Nat))],
   (bq,.cells 34 6 (spD p.1.2.2.1.1 p.1.2.2.1.2 p.1.2.2.2.1 p.1.2.2.2.2.1 p.1.1.cf.length p.1.1.pa.length p.1.1.ag.length))::(b10,.cells 43 4 (cfC (y'E u)))::(b8,.cells 34 6 spZ)::spH p.1.2.2.1.1 p.1.2.2.1.2 p.1.2.2.2.1 p.1.2.2.2.2.1 p.1.2.2.2.2.2 p.1.1⟩)
  (fun p=>M.length-p.1.2.1) ⟨(S,0,(bc,cc),gp,gb,gl),by dsimp only;exact⟨z'6 _,hSb,⟨hlt,hcd.symm⟩,⟨hpa,hag,by omega⟩,hrt,by rw[y'o];exact hE,⟨hcc,hgp,hgb⟩⟩⟩ ?_ ?_
 ·refine z'G rfl ?_
  simp[sub,upd]
 clear hat hlt hcd hE hrt hed hag hpa hS1 hSb hcc hgp hgb hi q1 q2 q3 q4 q5 q6 cm hc0
 rintro⟨⟨S',k,⟨bc,cc⟩,gp,gb,gl⟩,hk,hSb,⟨hlt,hcd⟩,⟨hpa,hag,hed⟩,hrt,hE,hcc,hgp,hgb⟩
 dsimp only at hk hSb hlt hcd hpa hag hed hrt hE hcc hgp hgb⊢
 refine VC.nodup fun hn=>?_
 simp only[Heap.blocks,z'z,x'A,z'L,not_or]at hn
 obtain⟨⟨q1,q2,q3,_⟩,⟨q4,q5,_⟩,⟨q6,_⟩,_⟩:=hn
 rcases z'g k M.length with hkl|hge
 case inr=>
  obtain rfl:k=M.length:=by omega
  rw[List.drop_length]at hE
  simp only[v'F,x'U]at hE
  repeat' first|refine vs T rfl fun K hK=>?_;(try simp (disch:=omega) only[go_sem,Nat.reduceBEq,z'l,w64]);(refine hK _ _ ?_;clear hK K)|refine st rfl ?_|refine sc rfl ?_|refine nl ?_|with_reducible refine z's (fun hc=>?_) (fun hc=>?_)<;>(try simp only[decide_eq_true_eq,decide_eq_false_iff_not,z'u]at hc)<;>(try(exfalso;omega))
  refine⟨⟨(S',i+1,(bc,cc),gp,gb,gl),by dsimp only;exact⟨by omega,hSb,by omega,⟨hpa,hag,by omega⟩,hrt,by rw[hE,show B+1-(i+1)=B-i by omega],⟨hcc,hgp,hgb⟩⟩⟩,z'G rfl ?_,by dsimp only;omega⟩
  simp[sub,upd]
 obtain⟨a,ha⟩: ∃a,a=M.getD k 0:=⟨_,rfl⟩
 have had:M.drop k=a::M.drop (k+1):=by rw[ha,x'c hkl,z'd,z'b hkl];rfl
 rw[had,Zht]at hE
 have ra:=ZiB hR a
 have hd:=hR.actM a
 have cf:=Zev S'.cf ⟨[],[],[]⟩ S'.pa S'.ag (by omega) (fun c hc=>(hrt c hc).okC) (actM u c m r a) hd.okC
 generalize hD:actM u c m r a=d at*
 cases hx:w'u S'.cf d with
 |some j=>
  rw[hx]at cf
  simp only[plI]at cf
  have hst:stepA (fun c a=>actM u c m r a) B i c S' a=some {S' with ed:=S'.ed++[(i,a,j)]}:=by
   unfold stepA
   simp only[hD]
   rw[show S'.cf.idxOf? d=some j from hx]
  rw[hst,x'U]at hE
  repeat' first|apply VC.drawM (id:=18) T 18 16 17 (s:=17) (ty:=43) rfl rfl rfl (by kernel_rfl) (by kernel_rfl) (by kernel_rfl) (by kernel_rfl)|refine VCm.nil T ?_;simp only[w'b,WB,Nat.reduceAdd];try(refine fun(bq:Nat) hbq=>?_;(try simp only[HB]at hbq))|apply VCm.step T (by rfl) (by rfl) rfl rfl;focus((try simp (disch:=omega) only[go_sem,Nat.reduceBEq,Nat.reduceAdd,Nat.reduceLeDiff,x'7,Zaa,Zey,z'o,hcd, ←ha]);(first|exact rfl|refine⟨?_,rfl⟩;try omega|refine Op1.callp rfl rfl (ra) rfl ?_;exact⟨rfl,rfl⟩))|apply VCm.alloc T;(case h1=>rfl);(case hg=>rfl);(case hop=>rfl);(case hd=>rfl);(case hk=>rfl);(case hz=>rfl)|apply VCm.store T;(case h1=>rfl);(case h2=>rfl);(case hg=>rfl);(case hd=>rfl);(case hc=>(intro b hb;(try simp (disch:=omega) only[go_sem,Nat.reduceBEq,Nat.reduceAdd,Nat.reduceLeDiff]);exact rfl));(case hz=>(rfl))|refine vs T rfl fun K hK=>?_;(try simp (disch:=omega) only[go_sem,Nat.reduceBEq,Nat.reduceAdd,Nat.reduceMul,Nat.reduceLeDiff,z'l,x'7,z'o, ←ha,w64]);(first|refine hK _ _ ?_;clear hK K|refine⟨_,_,_,_,(by repeat (first|exact Sp.here|apply Sp.cons|apply Sp.over)),?_,(by exact⟨rfl,rfl⟩),?_,fun g' hg'=>hK _ _ ?_⟩<;>clear hK K|refine⟨?_,hK _ _ ?_⟩<;>clear hK K;focus(try omega)|refine Op1.lend rfl rfl (cf) (z'E (Ziw hcc hgp hgb (fun x hx=>z'e _ (z'e _ (z'e _ (z'e _ hx))))) (FzL.refl _ _)) (.inr rfl) ?_;refine hK _ _ ?_;clear hK K)|refine st rfl ?_|refine sc rfl ?_|refine nl ?_|refine ov ?_|with_reducible refine z's (fun hc=>?_) (fun hc=>?_)<;>(try simp only[decide_eq_true_eq,decide_eq_false_iff_not,z'u]at hc)<;>(try(exfalso;omega))
  ·rw[ZcN,Zby]
  ·omega
  ·refine⟨⟨({S' with ed:=S'.ed++[(i,a,j)]},k+1,(bc,cc),gp,gb,g'),by dsimp only;exact⟨by omega,hSb,⟨hlt,hcd⟩,⟨hpa,hag,by simp only[z'k,z'D,z'5];omega⟩,hrt,hE,⟨hcc,hgp,hgb⟩⟩⟩,y'S ?_ ?_,by dsimp only;omega⟩
   ·dsimp only
    simp only[spH,ZdN,Zb8]
    rfl
   ·simp[sub,upd]
 |none=>
  rw[hx]at cf
  simp only[plI]at cf
  rcases z'g S'.cf.length B with hB|hB
  case inr=>
   have hst:stepA (fun c a=>actM u c m r a) B i c S' a=none:=by
    unfold stepA
    simp only[hD]
    rw[show S'.cf.idxOf? d=none from hx]
    simp only[decide_eq_false (Nat.not_lt.2 hB)]
   rw[hst]at hE
   simp only[Option.bind_none]at hE
   repeat' first|apply VC.drawM (id:=18) T 18 16 17 (s:=17) (ty:=43) rfl rfl rfl (by kernel_rfl) (by kernel_rfl) (by kernel_rfl) (by kernel_rfl)|refine VCm.nil T ?_;simp only[w'b,WB,Nat.reduceAdd];try(refine fun(bq:Nat) hbq=>?_;(try simp only[HB]at hbq))|apply VCm.step T (by rfl) (by rfl) rfl rfl;focus((try simp (disch:=omega) only[go_sem,Nat.reduceBEq,Nat.reduceAdd,Nat.reduceLeDiff,x'7,Zaa,Zey,z'o,hcd, ←ha]);(first|exact rfl|refine⟨?_,rfl⟩;try omega|refine Op1.callp rfl rfl (ra) rfl ?_;exact⟨rfl,rfl⟩))|apply VCm.alloc T;(case h1=>rfl);(case hg=>rfl);(case hop=>rfl);(case hd=>rfl);(case hk=>rfl);(case hz=>rfl)|apply VCm.store T;(case h1=>rfl);(case h2=>rfl);(case hg=>rfl);(case hd=>rfl);(case hc=>(intro b hb;(try simp (disch:=omega) only[go_sem,Nat.reduceBEq,Nat.reduceAdd,Nat.reduceLeDiff]);exact rfl));(case hz=>(rfl))|refine vs T rfl fun K hK=>?_;(try simp (disch:=omega) only[go_sem,Nat.reduceBEq,Nat.reduceAdd,Nat.reduceLeDiff,z'l]);(first|refine hK _ _ ?_;clear hK K|refine Op1.lend rfl rfl (cf) (z'E (Ziw hcc hgp hgb (fun x hx=>z'e _ (z'e _ (z'e _ (z'e _ hx))))) (FzL.refl _ _)) (.inr rfl) ?_;refine hK _ _ ?_;clear hK K)|refine st rfl ?_|refine sc rfl ?_|refine nl ?_|refine ov ?_|with_reducible refine z's (fun hc=>?_) (fun hc=>?_)<;>(try simp only[decide_eq_true_eq,decide_eq_false_iff_not,ge_iff_le,x'd,z'u]at hc)<;>(try(exfalso;omega))
   rw[hS0,hE0,hE]
   exact y'T T rfl (by(try simp (disch:=omega) only[hget_ne,hget_eq]);rfl) rfl rfl rfl (z'a _) Zgf
  have hst:stepA (fun c a=>actM u c m r a) B i c S' a=some ⟨S'.cf++[d],S'.pa++[(i:Int)],S'.ag++[a],S'.ed++[(i,a,S'.cf.length)]⟩:=by
   unfold stepA
   simp only[hD]
   rw[show S'.cf.idxOf? d=none from hx]
   simp only[decide_eq_true hB]
  rw[hst,x'U]at hE
  repeat' first|refine dr (id:=26) T 7 (by kernel_rfl) ?_|apply VC.drawM (id:=18) T 18 16 17 (s:=17) (ty:=43) rfl rfl rfl (by kernel_rfl) (by kernel_rfl) (by kernel_rfl) (by kernel_rfl)|refine VCm.nil T ?_;simp only[w'b,WB,Nat.reduceAdd];try(refine fun(bq:Nat) hbq=>?_;(try simp only[HB]at hbq))|apply VCm.step T (by rfl) (by rfl) rfl rfl;focus((try simp (disch:=omega) only[go_sem,Nat.reduceBEq,Nat.reduceAdd,Nat.reduceLeDiff,x'7,Zaa,Zey,z'o,hcd, ←ha]);(first|exact rfl|refine⟨?_,rfl⟩;try omega|refine Op1.callp rfl rfl (ra) rfl ?_;exact⟨rfl,rfl⟩))|apply VCm.alloc T;(case h1=>rfl);(case hg=>rfl);(case hop=>rfl);(case hd=>rfl);(case hk=>rfl);(case hz=>rfl)|apply VCm.store T;(case h1=>rfl);(case h2=>rfl);(case hg=>rfl);(case hd=>rfl);(case hc=>(intro b hb;(try simp (disch:=omega) only[go_sem,Nat.reduceBEq,Nat.reduceAdd,Nat.reduceLeDiff]);exact rfl));(case hz=>(rfl))|refine gn ?_|(first|apply VCg.step T rfl rfl|apply exF);focus((try simp (disch:=omega) only[go_sem,Nat.reduceBEq,Nat.reduceMul,Nat.reduceLeDiff,x'7,z'o, ←ha]);(first|exact rfl|refine⟨?_,rfl⟩;try omega))|refine vs T rfl fun K hK=>?_;(try simp (disch:=omega) only[go_sem,Nat.reduceBEq,Nat.reduceAdd,Nat.reduceMul,Nat.reduceLeDiff,z'l,x'7,z'o, ←ha,w64]);(first|refine hK _ _ ?_;clear hK K|refine⟨_,_,_,_,(by repeat (first|exact Sp.here|apply Sp.cons|apply Sp.over)),?_,(by exact⟨rfl,rfl⟩),⟨by decide,?_⟩,fun g' hg'=>hK _ _ ?_⟩<;>clear hK K|refine⟨_,_,_,_,(by repeat (first|exact Sp.here|exact Sp.hereS|apply Sp.cons|apply Sp.over)),?_,(by exact⟨rfl,rfl⟩),?_,fun g' hg'=>hK _ _ ?_⟩<;>clear hK K|refine⟨?_,hK _ _ ?_⟩<;>clear hK K;focus(try omega)|refine Op1.lend rfl rfl (cf) (z'E (Ziw hcc hgp hgb (fun x hx=>z'e _ (z'e _ (z'e _ (z'e _ hx))))) (FzL.refl _ _)) (.inr rfl) ?_;refine hK _ _ ?_;clear hK K)|refine st rfl ?_|refine sc rfl ?_|refine nl ?_|refine ov ?_|with_reducible refine z's (fun hc=>?_) (fun hc=>?_)<;>(try simp only[decide_eq_true_eq,decide_eq_false_iff_not,ge_iff_le,x'd,z'u]at hc)<;>(try(exfalso;omega))
  ·exact Zaa _
  ·omega
  ·simp
  ·omega
  ·simp
  ·omega
  ·rw[ZcN,Zby]
  ·omega
  rename_i gc' hgc' gp' hgp' gb' hgb'
  rcases gc' with _|⟨bc',cc'⟩
  ·cases hgc'
  refine⟨⟨(⟨S'.cf++[d],S'.pa++[(i:Int)],S'.ag++[a],S'.ed++[(i,a,S'.cf.length)]⟩,k+1,(bc',cc'),gp',gb',g'),?_⟩,y'S ?_ ?_,by dsimp only;omega⟩
  ·dsimp only
   simp only[z'k,z'D,z'5,y'q]
   refine⟨by omega,by omega,⟨by omega,?_⟩,⟨by omega,by omega,by omega⟩,?_,hE,hgc',hgp',hgb'⟩
   ·rw[←hcd,z'd,y'f hlt,z'd]
   ·intro x hx
    rcases y'x.1 hx with hx|hx
    ·exact hrt x hx
    ·rw[x'g]at hx;rw[hx];exact hd
  ·dsimp only
   simp only[spH,ZdN,Zb8,ZeB,z'F,z'z,y't,z'k,z'D,z'5,y'q]
   rfl
  ·simp[sub,upd]
end Go.Proofs.YtomcmfbpmkklmaaGreat
