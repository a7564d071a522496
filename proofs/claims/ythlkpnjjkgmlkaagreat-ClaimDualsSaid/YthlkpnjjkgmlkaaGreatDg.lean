/- Contracts: the reference finds all that can be reached. No condition. -/
import Derived.Test.YthlkpnjjkgmlkaaGreatDh
import Derived.Test.YthlkpnjjkgmlkaaGreatZr
import Derived.Test.YthlkpnjjkgmlkaaGreatYp
import Derived.Test.YthlkpnjjkgmlkaaGreatRt
namespace Go.Proofs.YthlkpnjjkgmlkaaGreat
set_option maxHeartbeats 16000000
set_option linter.unusedSimpArgs false
set_option linter.unusedVariables false
set_option maxRecDepth 20000
open Go Go.Proofs Go.Vc
attribute [local irreducible] x'v VCg VCw VCx
theorem ZpY {a b:Cf}:v'c a b=true↔a=b:=⟨fun h=>(ZrG h).symm,fun h=>by subst h;exact ZiA a⟩
theorem Zo4 (C:List Cf) (g:Cs) (P B:List Int) (hl:C.length≤1000000) (hC: ∀c,c∈C→OkC c) (c:Cf) (hc:OkC c):Pure Tryz.prog 94 [.agg (spC C g P B),.agg (cfC c)] (iD (plI (ZhE C c))):=by
 refine Fun.of T [.tmp 4] Tryz.func94 rfl Tryz.ntmps94 Tryz.results94 rfl (by kernel_rfl) ?_
 repeat' first|refine vb (t:=57) rfl rfl rfl rfl ?_|refine vb (t:=69) rfl rfl rfl rfl ?_|refine mq0 ?_|fail
 refine VC.loop {k:Nat//k≤C.length∧ ∀i,i<k→C[i]?≠some c} (fun p=>⟨z'T [(2,.pt (spC C g P B)),(3,.pt (cfC c)),(5,iD (p.1:Nat))],[]⟩) (fun p=>C.length-p.1) ⟨0,by omega,fun i hi=>by omega⟩ ?_ ?_
 ·refine Weak.sub ?_
  simp[sub,upd]
 rintro⟨k,hk,hs⟩
 dsimp only
 rcases z'i k C.length with hlt|hge
 case inr=>
  obtain rfl:k=C.length:=by omega
  rw[Zt3 hs]
  repeat' first|refine mq1 @w'd ?_|exact z'p T (z'a _) ⟨rfl,rfl⟩|with_reducible refine z'n (fun hc=>?_) (fun hc=>?_)<;>(try simp only[decide_eq_true_eq,decide_eq_false_iff_not,z'w]at hc)<;>(try(exfalso;omega))|fail
 have hat:=Zae (d:=(default:Cf)) hlt
 have cs:=ZrF (C.getD k default) c (hC _ (x'p hlt)) hc
 cases h:v'c (C.getD k default) c with
 |true=>
  rw[h]at cs
  rw[Zt2 (by rw[hat,ZpY.1 h]) hs]
  repeat' first|refine dr (id:=4) T 6 (by kernel_rfl) ?_|apply VCg.step T rfl rfl;focus((try simp (disch:=omega) only[go_sem,Nat.reduceBEq,Nat.reduceAdd,Nat.reduceLeDiff,Zf6,z'e]);(first|exact rfl|refine⟨?_,rfl⟩;try omega))|refine mq2 @w'd cs ?_|exact z'p T (z'a _) ⟨rfl,rfl⟩|with_reducible refine z'n (fun hc=>?_) (fun hc=>?_)<;>(try simp only[decide_eq_true_eq,decide_eq_false_iff_not,z'w]at hc)<;>(try(exfalso;omega))|fail
 |false=>
  rw[h]at cs
  repeat' first|refine dr (id:=4) T 6 (by kernel_rfl) ?_|apply VCg.step T rfl rfl;focus((try simp (disch:=omega) only[go_sem,Nat.reduceBEq,Nat.reduceAdd,Nat.reduceLeDiff,Zf6,z'e]);(first|exact rfl|refine⟨?_,rfl⟩;try omega))|refine mq2 (z'X @w'd @w64) cs ?_|with_reducible refine z'n (fun hc=>?_) (fun hc=>?_)<;>(try simp only[decide_eq_true_eq,decide_eq_false_iff_not,z'w]at hc)<;>(try(exfalso;omega))|fail
  refine⟨⟨k+1,by omega,fun i hi=>?_⟩,Weak.sub ?_,by simp only[];omega⟩
  ·rcases z'i i k with h'|h'
   ·exact hs i h'
   ·obtain rfl:i=k:=by omega
    rw[hat]
    rintro e
    rw[z'O e,ZiA]at h
    cases h
  ·simp[sub,upd]
def Zdq (m r b:Int):Bool:=(decide (1≤m)&&decide (m≤3))&&((decide (1≤r)&&decide (r≤4))&&(decide (1≤b)&&decide (b≤100000)))
def ZaL (u:Un) (m r b:Int):Int:=match x'd u,Zdq m r b with
 |false,_=>8
 |true,false=>1
 |true,true=>match ZcZ u m r b with
  |some _=>0
  |none=>18
def spR (u:Un) (m r b:Int):List D:=match x'd u&&Zdq m r b with
 |true=>match ZcZ u m r b with
  |some S=>spA S
  |none=>spC [] ⟨[],[],[]⟩ [] []
 |false=>spC [] ⟨[],[],[]⟩ [] []
abbrev spZ:List D:=[.gs none 0,.gs none 0,.gs none 0,.gs none 0,.gs none 0,.gs none 0]
theorem Zk3 {H:Heap} {a:D}:Fz H (.tup [.agg (spC [] ⟨[],[],[]⟩ [] []),a]) (.tup [.agg spZ,a]):=
 ⟨_,rfl,z'u ⟨_,rfl,z'u z'1 (z'u z'1 (z'u z'1 (z'u z'1 (z'u z'1 (z'u z'1 x'9)))))⟩ (FzL.refl _ _)⟩
theorem Zrv (u:Un) (hu:OkU u) (m r b:Int) (hU:x'd u=false):Pure Tryz.prog 48 [.agg (unC u),iD m,iD r,iD b] (.tup [.agg (spR u m r b),iD (ZaL u m r b)]):=by
 have cs:=Zgm u hu
 have cs:Pure Tryz.prog 76 [.agg (unC u)] (.tup [.agg (cfC cf0),iD 8]):=by rwa [show Zdr u=cf0 by simp[Zdr,hU],show Zds u=8 by simp[Zds,hU]]at cs
 have e1:spR u m r b=spC [] ⟨[],[],[]⟩ [] []:=by simp[spR,hU]
 have e2:ZaL u m r b=8:=by simp[ZaL,hU]
 rw[e1,e2]
 refine Fun.fz ?_
 refine Fun.of T [.cell 8 57,.tmp 9] Tryz.func48 rfl Tryz.ntmps48 Tryz.results48 rfl (by kernel_rfl) ?_
 repeat' first
  |(refine vb (t:=32) rfl rfl rfl rfl ?_)
  |(refine dr (id:=14) T 8 (by kernel_rfl) ?_)
  |(refine dr (id:=26) T 7 (by kernel_rfl) ?_)
  |(apply VC.drawM (id:=18) T 18 16 17 (s:=17) (ty:=69) rfl rfl rfl (by kernel_rfl) (by kernel_rfl) (by kernel_rfl) (by kernel_rfl))
  |(refine VCm.nil T ?_;simp only[x'r,WB,Nat.reduceAdd,z'r,z'N,T69];try(refine fun(bq:Nat) hbq=>?_;(try simp only[HB]at hbq)))
  |(apply VCm.step T (by rfl) (by rfl) rfl rfl;focus((try simp (disch:=omega) only[go_sem,Nat.reduceBEq,Nat.reduceAdd,Nat.reduceMul,Nat.reduceSub,Nat.reduceLeDiff,Int.reduceToNat]);(first|exact rfl|exact⟨rfl,rfl⟩|(refine⟨?_,rfl⟩;try(first|omega|exact⟨rfl,by decide⟩|exact rfl))|(refine Op1.callp rfl rfl (cs) rfl ?_;exact⟨rfl,rfl⟩))))
  |(apply VCm.alloc T;(case h1=>rfl);(case hg=>rfl);(case hop=>rfl);(case hd=>rfl);(case hk=>rfl);(case hz=>rfl))
  |(apply VCm.store T;(case h1=>rfl);(case h2=>rfl);(case hg=>rfl);(case hd=>rfl);(case hc=>(intro b hb;(try simp (disch:=omega) only[go_sem,Nat.reduceBEq,Nat.reduceAdd,Nat.reduceMul,Nat.reduceSub,Nat.reduceLeDiff,Int.reduceToNat]);first|omega|(refine⟨?_,?_⟩;focus(first|omega|exact⟨rfl,by decide⟩|exact rfl);exact⟨rfl,rfl⟩)|exact rfl|exact⟨rfl,rfl⟩));(case hz=>(first|rfl|(simp;done))))
  |(refine gn ?_)
  |(refine VCg.nil T ?_;simp only[x'r,WB,Nat.reduceAdd,T69];try(refine fun(bq:Nat) hbq=>?_;(try simp only[HB]at hbq)))
  |((first|apply VCg.step T rfl rfl|apply exF);focus((try simp (disch:=omega) only[go_sem,Nat.reduceBEq,Nat.reduceAdd,Nat.reduceMul,Nat.reduceSub,Nat.reduceLeDiff,Int.reduceToNat]);(first|exact rfl|exact⟨rfl,rfl⟩|(refine⟨?_,rfl⟩;try(first|omega|exact⟨rfl,by decide⟩|exact rfl))|(refine Op1.callp rfl rfl (cs) rfl ?_;exact⟨rfl,rfl⟩))))
  |(refine VCg.alloc T rfl rfl rfl rfl rfl ?_)
  |(refine VCg.gstep T rfl rfl rfl rfl ?_;try simp only[GB])
  |(refine VCg.gundef T rfl rfl rfl rfl ?_;try simp only[updO])
  |(refine vs T rfl fun K hK=>?_;(try simp (disch:=omega) only[go_sem,Nat.reduceBEq,Nat.reduceAdd,Nat.reduceMul,Nat.reduceSub,Nat.reduceLeDiff,Int.reduceToNat]);(first|(refine hK _ _ ?_;clear hK K)|(refine⟨_,_,_,_,(by repeat (first|exact Sp.here|exact Sp.nil|apply Sp.cons|apply Sp.over)),?_,(by first|exact⟨rfl,rfl⟩|exact⟨rfl,rfl,rfl⟩),⟨by decide,?_⟩,fun g' hg'=>hK _ _ ?_⟩<;>clear hK K)|(refine⟨_,_,_,_,(by repeat (first|exact Sp.here|exact Sp.nil|apply Sp.cons|apply Sp.over)),?_,(by first|exact⟨rfl,rfl⟩|exact⟨rfl,rfl,rfl⟩),?_,fun g' hg'=>hK _ _ ?_⟩<;>clear hK K)|(intro bq hbq;(try simp only[HB]at hbq);refine hK _ _ ?_;clear hK K)|(refine⟨?_,hK _ _ ?_⟩<;>clear hK K;focus(try(first|omega|exact⟨rfl,by decide⟩|exact rfl)))|(refine⟨_,?_,hK _ _ ?_⟩<;>clear hK K)|(refine Op1.callp rfl rfl (cs) rfl ?_;refine hK _ _ ?_;clear hK K)|skip))
  |(refine st rfl ?_)
  |(refine sc rfl ?_)
  |(refine nl ?_)
  |(refine gs rfl rfl ?_)
  |(refine gu rfl rfl ?_)
  |(refine ov ?_)
  |(with_reducible refine gt ?_ ?_;focus(simp (disch:=omega) only[go_sem,Nat.reduceBEq,Nat.reduceAdd,Nat.reduceMul,Nat.reduceSub,Nat.reduceLeDiff,Int.reduceToNat];done))
  |(with_reducible refine gf ?_ ?_;focus(simp (disch:=omega) only[go_sem,Nat.reduceBEq,Nat.reduceAdd,Nat.reduceMul,Nat.reduceSub,Nat.reduceLeDiff,Int.reduceToNat];done))
  |(with_reducible refine z'n (fun hc=>?_) (fun hc=>?_))
 rename_i b8 hb8
 have n1: ¬bq=b8:=hbq
 exact x'8 T rfl (by(try simp (disch:=omega) only[hget_ne,hget_eq]);rfl) rfl rfl rfl (z'a _) Zk3
theorem Zru (u:Un) (hu:OkU u) (m r b:Int) (hU:x'd u=true) (hA:Zdq m r b=false):Pure Tryz.prog 48 [.agg (unC u),iD m,iD r,iD b] (.tup [.agg (spR u m r b),iD (ZaL u m r b)]):=by
 have cs:=Zgm u hu
 have cs:Pure Tryz.prog 76 [.agg (unC u)] (.tup [.agg (cfC (x'3 u)),iD 0]):=by rwa [show Zdr u=x'3 u by simp[Zdr,hU],show Zds u=0 by simp[Zds,hU]]at cs
 have e1:spR u m r b=spC [] ⟨[],[],[]⟩ [] []:=by simp[spR,hU,hA]
 have e2:ZaL u m r b=1:=by simp[ZaL,hU,hA]
 have hA': ¬(1≤m∧m≤3∧1≤r∧r≤4∧1≤b∧b≤100000):=fun h=>by
  have:Zdq m r b=true:=by simp only[Zdq,z'f,decide_eq_true_eq];omega
  rw[this]at hA;cases hA
 rw[e1,e2]
 refine Fun.fz ?_
 refine Fun.of T [.cell 8 57,.tmp 9] Tryz.func48 rfl Tryz.ntmps48 Tryz.results48 rfl (by kernel_rfl) ?_
 repeat' first
  |(refine vb (t:=32) rfl rfl rfl rfl ?_)
  |(refine dr (id:=14) T 8 (by kernel_rfl) ?_)
  |(refine dr (id:=26) T 7 (by kernel_rfl) ?_)
  |(apply VC.drawM (id:=18) T 18 16 17 (s:=17) (ty:=69) rfl rfl rfl (by kernel_rfl) (by kernel_rfl) (by kernel_rfl) (by kernel_rfl))
  |(refine VCm.nil T ?_;simp only[x'r,WB,Nat.reduceAdd,z'r,z'N,T69];try(refine fun(bq:Nat) hbq=>?_;(try simp only[HB]at hbq)))
  |(apply VCm.step T (by rfl) (by rfl) rfl rfl;focus((try simp (disch:=omega) only[go_sem,Nat.reduceBEq,Nat.reduceAdd,Nat.reduceMul,Nat.reduceSub,Nat.reduceLeDiff,Int.reduceToNat]);(first|exact rfl|exact⟨rfl,rfl⟩|(refine⟨?_,rfl⟩;try(first|omega|exact⟨rfl,by decide⟩|exact rfl))|(refine Op1.callp rfl rfl (cs) rfl ?_;exact⟨rfl,rfl⟩))))
  |(apply VCm.alloc T;(case h1=>rfl);(case hg=>rfl);(case hop=>rfl);(case hd=>rfl);(case hk=>rfl);(case hz=>rfl))
  |(apply VCm.store T;(case h1=>rfl);(case h2=>rfl);(case hg=>rfl);(case hd=>rfl);(case hc=>(intro b hb;(try simp (disch:=omega) only[go_sem,Nat.reduceBEq,Nat.reduceAdd,Nat.reduceMul,Nat.reduceSub,Nat.reduceLeDiff,Int.reduceToNat]);first|omega|(refine⟨?_,?_⟩;focus(first|omega|exact⟨rfl,by decide⟩|exact rfl);exact⟨rfl,rfl⟩)|exact rfl|exact⟨rfl,rfl⟩));(case hz=>(first|rfl|(simp;done))))
  |(refine gn ?_)
  |(refine VCg.nil T ?_;simp only[x'r,WB,Nat.reduceAdd,T69];try(refine fun(bq:Nat) hbq=>?_;(try simp only[HB]at hbq)))
  |((first|apply VCg.step T rfl rfl|apply exF);focus((try simp (disch:=omega) only[go_sem,Nat.reduceBEq,Nat.reduceAdd,Nat.reduceMul,Nat.reduceSub,Nat.reduceLeDiff,Int.reduceToNat]);(first|exact rfl|exact⟨rfl,rfl⟩|(refine⟨?_,rfl⟩;try(first|omega|exact⟨rfl,by decide⟩|exact rfl))|(refine Op1.callp rfl rfl (cs) rfl ?_;exact⟨rfl,rfl⟩))))
  |(refine VCg.alloc T rfl rfl rfl rfl rfl ?_)
  |(refine VCg.gstep T rfl rfl rfl rfl ?_;try simp only[GB])
  |(refine VCg.gundef T rfl rfl rfl rfl ?_;try simp only[updO])
  |(refine vs T rfl fun K hK=>?_;(try simp (disch:=omega) only[go_sem,Nat.reduceBEq,Nat.reduceAdd,Nat.reduceMul,Nat.reduceSub,Nat.reduceLeDiff,Int.reduceToNat]);(first|(refine hK _ _ ?_;clear hK K)|(refine⟨_,_,_,_,(by repeat (first|exact Sp.here|exact Sp.nil|apply Sp.cons|apply Sp.over)),?_,(by first|exact⟨rfl,rfl⟩|exact⟨rfl,rfl,rfl⟩),⟨by decide,?_⟩,fun g' hg'=>hK _ _ ?_⟩<;>clear hK K)|(refine⟨_,_,_,_,(by repeat (first|exact Sp.here|exact Sp.nil|apply Sp.cons|apply Sp.over)),?_,(by first|exact⟨rfl,rfl⟩|exact⟨rfl,rfl,rfl⟩),?_,fun g' hg'=>hK _ _ ?_⟩<;>clear hK K)|(intro bq hbq;(try simp only[HB]at hbq);refine hK _ _ ?_;clear hK K)|(refine⟨?_,hK _ _ ?_⟩<;>clear hK K;focus(try(first|omega|exact⟨rfl,by decide⟩|exact rfl)))|(refine⟨_,?_,hK _ _ ?_⟩<;>clear hK K)|(refine Op1.callp rfl rfl (cs) rfl ?_;refine hK _ _ ?_;clear hK K)|skip))
  |(refine st rfl ?_)
  |(refine sc rfl ?_)
  |(refine nl ?_)
  |(refine gs rfl rfl ?_)
  |(refine gu rfl rfl ?_)
  |(refine ov ?_)
  |(with_reducible refine gt ?_ ?_;focus(simp (disch:=omega) only[go_sem,Nat.reduceBEq,Nat.reduceAdd,Nat.reduceMul,Nat.reduceSub,Nat.reduceLeDiff,Int.reduceToNat];done))
  |(with_reducible refine gf ?_ ?_;focus(simp (disch:=omega) only[go_sem,Nat.reduceBEq,Nat.reduceAdd,Nat.reduceMul,Nat.reduceSub,Nat.reduceLeDiff,Int.reduceToNat];done))
  |(with_reducible refine z'n (fun hc=>?_) (fun hc=>?_)<;>(try simp only[decide_eq_true_eq,decide_eq_false_iff_not,beq_iff_eq,beq_eq_false_iff_ne,bne_iff_ne,bne_eq_false_iff_eq,ne_eq,z'x,z'B,Bool.not_eq_true,Bool.not_eq_false,ge_iff_le,gt_iff_lt,y'b,z'w,Decidable.not_not]at hc)<;>(try(exfalso;omega)))
 all_goals(exact x'8 T rfl (by(try simp (disch:=omega) only[hget_ne,hget_eq]);rfl) rfl rfl rfl (z'a _) Zk3)
abbrev spD (bc cc:Nat) (gp gb:Option (Nat×Nat)) (n1 n2 n3:Nat):List D:=[.gs (some (bc,cc)) n1,.gs none 0,.gs none 0,.gs none 0,.gs gp n2,.gs gb n3]
abbrev spH (bc cc:Nat) (gp gb gl:Option (Nat×Nat)) (S:Spc Cf):Heap:=
 (bc,.cells 69 (cc*4) (w't S.cf).flatten)::shp gp 3 1 (S.pa.map iD) (shp gb 3 1 (S.ag.map iD) (shp gl 149 3 (Zc0 (edS S)).flatten []))
theorem w'g {C:List Cf} {i:Nat} (h:i<C.length):((w't C).flatten.drop (i*4)).take 4=cfC (C.getD i default):=by
 induction C generalizing i with
 |nil=>simp at h
 |cons c C ih=>
  cases i with
  |zero=>rfl
  |succ i=>
   have:(w't (c::C)).flatten=cfC c++(w't C).flatten:=rfl
   rw[this,show(i+1)*4=(cfC c).length+i*4 by simp;omega,List.drop_length_add_append,ih (by simpa using h)]
   simp
theorem ZbW {bc cc:Nat} {gp gb gl:Option (Nat×Nat)} {S:Spc Cf} {H:Heap} (h1:S.cf.length≤cc) (h2:gOk gp S.pa.length) (h3:gOk gb S.ag.length) (hm: ∀x,x∈spH bc cc gp gb gl S→x∈H):
  Fz H (.agg (spC S.cf ⟨[],[],[]⟩ S.pa S.ag)) (.agg (spD bc cc gp gb S.cf.length S.pa.length S.ag.length)):=by
 have z1:Fz H (.sl false 4 (w't S.cf)) (.gs (some (bc,cc)) S.cf.length):=ZcB (e:=69) (w'd S.cf).symm h1 (fun b c e=>by cases e;exact hm _ (z'z ..)) (FzR.refl _ _ (Zg7 _))
 have z2:=w'H (e:=3) (s:=S.pa) (H:=H) h2 fun b c e=>hm _ (z'd _ (by subst e;exact x'J))
 have z3:=w'H (e:=3) (s:=S.ag) (H:=H) h3 fun b c e=>hm _ (z'd _ (w'w (by subst e;exact x'J)))
 exact⟨_,rfl,z'u z1 (z'u z'1 (z'u z'1 (z'u z'1 (z'u z2 (z'u z3 x'9)))))⟩
theorem ZtX {bc cc:Nat} {gp gb:Option (Nat×Nat)} {S:Spc Cf} {g:Cs} {H:Heap} {a:D} (h1:S.cf.length≤cc) (h2:gOk gp S.pa.length) (h3:gOk gb S.ag.length) (hm: ∀x,x∈(bc,HC.cells 69 (cc*4) (w't S.cf).flatten)::shp gp 3 1 (S.pa.map iD) (shp gb 3 1 (S.ag.map iD) [])→x∈H):
  Fz H (.tup [.agg (spC S.cf g S.pa S.ag),a]) (.tup [.agg [.gs (some (bc,cc)) S.cf.length,y'r g.st,y'r g.ag,y'r g.to,.gs gp S.pa.length,.gs gb S.ag.length],a]):=by
 have z1:Fz H (.sl false 4 (w't S.cf)) (.gs (some (bc,cc)) S.cf.length):=ZcB (e:=69) (w'd S.cf).symm h1 (fun b c e=>by cases e;exact hm _ (z'z ..)) (FzR.refl _ _ (Zg7 _))
 have z2:=w'H (e:=3) (s:=S.pa) (H:=H) h2 fun b c e=>hm _ (z'd _ (by subst e;exact x'J))
 have z3:=w'H (e:=3) (s:=S.ag) (H:=H) h3 fun b c e=>hm _ (z'd _ (w'w (by subst e;exact x'J)))
 exact⟨_,rfl,z'u ⟨_,rfl,z'u z1 (z'u (Fz.refl _ _) (z'u (Fz.refl _ _) (z'u (Fz.refl _ _) (z'u z2 (z'u z3 x'9)))))⟩ (FzL.refl _ _)⟩
theorem ZtW {gl:Option (Nat×Nat)} {S:Spc Cf} {H:Heap} (hg:gOk gl S.ed.length) (hm: ∀b cap,gl=some (b,cap)→(b,HC.cells 149 (cap*3) (Zc0 (edS S)).flatten)∈H):Fz H (ZkW (edS S)) (.gs gl S.ed.length):=
 ZcB (e:=149) (by rw[Zdu,Zgy]) hg hm (FzR.refl _ _ (Zqr _))
theorem Ztm (u:Un) (hu:OkU u) (m r b:Int) (hU:x'd u=true) (hA:Zdq m r b=true) (hb:b≤1000):Pure Tryz.prog 48 [.agg (unC u),iD m,iD r,iD b] (.tup [.agg (spR u m r b),iD (ZaL u m r b)]):=by
 have cs:=Zgm u hu
 have cs:Pure Tryz.prog 76 [.agg (unC u)] (.tup [.agg (cfC (x'3 u)),iD 0]):=by rwa [show Zdr u=x'3 u by simp[Zdr,hU],show Zds u=0 by simp[Zds,hU]]at cs
 have hA':=hA
 simp only[Zdq,z'f,decide_eq_true_eq]at hA'
 have h0:=Zhi hu hU hA'.1 hA'.2.1
 refine Fun.fz ?_
 refine Fun.of T [.cell 8 57,.tmp 9] Tryz.func48 rfl Tryz.ntmps48 Tryz.results48 rfl (by kernel_rfl) ?_
 repeat' first
  |(refine vb (t:=32) rfl rfl rfl rfl ?_)
  |(refine dr (id:=14) T 8 (by kernel_rfl) ?_)
  |(refine dr (id:=26) T 7 (by kernel_rfl) ?_)
  |(apply VC.drawM (id:=18) T 18 16 17 (s:=17) (ty:=69) rfl rfl rfl (by kernel_rfl) (by kernel_rfl) (by kernel_rfl) (by kernel_rfl))
  |(refine VCm.nil T ?_;simp only[x'r,WB,Nat.reduceAdd,z'r,z'N,T69];try(refine fun(bq:Nat) hbq=>?_;(try simp only[HB]at hbq)))
  |(apply VCm.step T (by rfl) (by rfl) rfl rfl;focus((try simp (disch:=omega) only[go_sem,Nat.reduceBEq,Nat.reduceAdd,Nat.reduceMul,Nat.reduceSub,Nat.reduceLeDiff,Int.reduceToNat]);(first|exact rfl|exact⟨rfl,rfl⟩|(refine⟨?_,rfl⟩;try(first|omega|exact⟨rfl,by decide⟩|exact rfl))|(refine Op1.callp rfl rfl (cs) rfl ?_;exact⟨rfl,rfl⟩))))
  |(apply VCm.alloc T;(case h1=>rfl);(case hg=>rfl);(case hop=>rfl);(case hd=>rfl);(case hk=>rfl);(case hz=>rfl))
  |(apply VCm.store T;(case h1=>rfl);(case h2=>rfl);(case hg=>rfl);(case hd=>rfl);(case hc=>(intro b hb;(try simp (disch:=omega) only[go_sem,Nat.reduceBEq,Nat.reduceAdd,Nat.reduceMul,Nat.reduceSub,Nat.reduceLeDiff,Int.reduceToNat]);first|omega|(refine⟨?_,?_⟩;focus(first|omega|exact⟨rfl,by decide⟩|exact rfl);exact⟨rfl,rfl⟩)|exact rfl|exact⟨rfl,rfl⟩));(case hz=>(first|rfl|(simp;done))))
  |(refine gn ?_)
  |(refine VCg.nil T ?_;simp only[x'r,WB,Nat.reduceAdd,T69];try(refine fun(bq:Nat) hbq=>?_;(try simp only[HB]at hbq)))
  |((first|apply VCg.step T rfl rfl|apply exF);focus((try simp (disch:=omega) only[go_sem,Nat.reduceBEq,Nat.reduceAdd,Nat.reduceMul,Nat.reduceSub,Nat.reduceLeDiff,Int.reduceToNat]);(first|exact rfl|exact⟨rfl,rfl⟩|(refine⟨?_,rfl⟩;try(first|omega|exact⟨rfl,by decide⟩|exact rfl))|(refine Op1.callp rfl rfl (cs) rfl ?_;exact⟨rfl,rfl⟩))))
  |(refine VCg.alloc T rfl rfl rfl rfl rfl ?_)
  |(refine VCg.gstep T rfl rfl rfl rfl ?_;try simp only[GB])
  |(refine VCg.gundef T rfl rfl rfl rfl ?_;try simp only[updO])
  |(refine vs T rfl fun K hK=>?_;(try simp (disch:=omega) only[go_sem,Nat.reduceBEq,Nat.reduceAdd,Nat.reduceMul,Nat.reduceSub,Nat.reduceLeDiff,Int.reduceToNat]);(first|(refine hK _ _ ?_;clear hK K)|(refine⟨_,_,_,_,(by repeat (first|exact Sp.here|exact Sp.hereS|apply Sp.cons|exact Sp.nil|apply Sp.over)),?_,(by first|exact⟨rfl,rfl⟩|exact⟨rfl,rfl,rfl⟩),⟨by decide,?_⟩,fun g' hg'=>hK _ _ ?_⟩<;>clear hK K)|(refine⟨_,_,_,_,(by repeat (first|exact Sp.here|exact Sp.hereS|apply Sp.cons|exact Sp.nil|apply Sp.over)),?_,(by first|exact⟨rfl,rfl⟩|exact⟨rfl,rfl,rfl⟩),?_,fun g' hg'=>hK _ _ ?_⟩<;>clear hK K)|(intro bq hbq;(try simp only[HB]at hbq);refine hK _ _ ?_;clear hK K)|(refine⟨?_,hK _ _ ?_⟩<;>clear hK K;focus(try(first|omega|exact⟨rfl,by decide⟩|exact rfl)))|(refine⟨_,?_,hK _ _ ?_⟩<;>clear hK K)|(refine Op1.callp rfl rfl (cs) rfl ?_;refine hK _ _ ?_;clear hK K)|skip))
  |(refine st rfl ?_)
  |(refine sc rfl ?_)
  |(refine nl ?_)
  |(refine gs rfl rfl ?_)
  |(refine gu rfl rfl ?_)
  |(refine ov ?_)
  |(with_reducible refine gt ?_ ?_;focus(simp (disch:=omega) only[go_sem,Nat.reduceBEq,Nat.reduceAdd,Nat.reduceMul,Nat.reduceSub,Nat.reduceLeDiff,Int.reduceToNat];done))
  |(with_reducible refine gf ?_ ?_;focus(simp (disch:=omega) only[go_sem,Nat.reduceBEq,Nat.reduceAdd,Nat.reduceMul,Nat.reduceSub,Nat.reduceLeDiff,Int.reduceToNat];done))
  |(with_reducible refine z'n (fun hc=>?_) (fun hc=>?_)<;>(try simp only[decide_eq_true_eq,decide_eq_false_iff_not,beq_iff_eq,beq_eq_false_iff_ne,bne_iff_ne,bne_eq_false_iff_eq,ne_eq,z'x,z'B,Bool.not_eq_true,Bool.not_eq_false,ge_iff_le,gt_iff_lt,y'b,z'w,Decidable.not_not]at hc)<;>(try(exfalso;omega)))
 ·rfl
 ·decide
 ·rfl
 ·decide
 ·rfl
 ·decide
 rename_i b8 t8 b10 h10 c1 c2 c3 c4 c5 gc hgc gp hgp
 have hE0:ZaL u m r b=match ZcZ u m r b with|some _=>0|none=>18:=by simp only[ZaL,hU,hA]
 have hS0:spR u m r b=match ZcZ u m r b with|some S=>spA S|none=>spC [] ⟨[],[],[]⟩ [] []:=by simp only[spR,hU,hA,Bool.and_self]
 rcases gc with _|⟨bc,cc⟩
 ·cases hgc
 have hall:ZcZ u m r b=w'x (fun c=>Zb4 u c m r) (fun c a=>actM u c m r a) b.toNat (b.toNat+1) 0 ⟨[x'3 u],[-1],[-1],[]⟩:=rfl
 obtain⟨B,rfl⟩: ∃B:Nat,b=(B:Int):=⟨b.toNat,by omega⟩
 rw[z'e]at hall
 refine VC.loop {p:Spc Cf×Nat×(Nat×Nat)×Option (Nat×Nat)×Option (Nat×Nat)×Option (Nat×Nat)//p.2.1≤p.1.cf.length∧p.1.cf.length≤B∧1≤p.1.cf.length∧(p.1.pa.length=p.1.cf.length∧p.1.ag.length=p.1.cf.length∧p.1.ed.length≤28*p.2.1)∧(∀c,c∈p.1.cf→Rt u c m r)∧
   ZcZ u m r B=w'x (fun c=>Zb4 u c m r) (fun c a=>actM u c m r a) B (B+1-p.2.1) p.2.1 p.1∧(p.1.cf.length≤p.2.2.1.2∧gOk p.2.2.2.1 p.1.pa.length∧gOk p.2.2.2.2.1 p.1.ag.length)}
  (fun p=>⟨z'T [(1,iD m),(2,iD r),(3,iD (B:Nat)),(4,.pt (unC u)),(8,pD b8),(12,pD bq),(13,.gs p.1.2.2.2.2.2 p.1.1.ed.length),(14,iD (p.1.2.1:Nat))],
   (bq,.cells 57 6 (spD p.1.2.2.1.1 p.1.2.2.1.2 p.1.2.2.2.1 p.1.2.2.2.2.1 p.1.1.cf.length p.1.1.pa.length p.1.1.ag.length))::(b10,.cells 69 4 (cfC (x'3 u)))::(b8,.cells 57 6 spZ)::spH p.1.2.2.1.1 p.1.2.2.1.2 p.1.2.2.2.1 p.1.2.2.2.2.1 p.1.2.2.2.2.2 p.1.1⟩)
  (fun p=>B+1-p.1.2.1) ⟨(⟨[x'3 u],[-1],[-1],[]⟩,0,(bc,cc),gp,g',none),by dsimp only;exact⟨z'A _,by simp only[z'r,z'N];omega,z'h _,⟨rfl,rfl,by decide⟩,fun c hc=>by rw[y'F]at hc;rw[hc];exact h0,hall,hgc,hgp,hg'⟩⟩ ?_ ?_
 ·refine Weak.trans (Weak.perm Zvk) (z'Q rfl ?_)
  simp[sub,upd]
 rintro⟨⟨S,i,⟨bc,cc⟩,gp,gb,gl⟩,hi,hSb,hS1,⟨hpa,hag,hed⟩,hrt,hE,hcc,hgp,hgb⟩
 dsimp only at hi hSb hS1 hpa hag hed hrt hE hcc hgp hgb⊢
 refine VC.nodup fun hn=>?_
 simp only[Heap.blocks,z's,x'Y,z'F,not_or]at hn
 obtain⟨⟨q1,q2,q3,_⟩,⟨q4,q5,_⟩,⟨q6,_⟩,_⟩:=hn
 rcases z'i i S.cf.length with hlt|hge
 case inr=>
  obtain rfl:i=S.cf.length:=by omega
  rw[ZpV (z'h _)]at hE
  have hG:=ZsI hE (by omega)
  have cb:=ZnO (S.cf.length:Nat) (edS S) (by rw[Zgy];omega)
  rw[Zjt (by omega) hG]at cb
  rw[hS0,hE0,hE]
  refine ZaD (t:=13) rfl fun hgl=>?_
  repeat' first
   |(refine dr (id:=14) T 8 (by kernel_rfl) ?_)
   |(refine dr (id:=26) T 7 (by kernel_rfl) ?_)
   |(apply VC.drawM (id:=18) T 18 16 17 (s:=17) (ty:=69) rfl rfl rfl (by kernel_rfl) (by kernel_rfl) (by kernel_rfl) (by kernel_rfl))
   |(refine VCm.nil T ?_;simp only[x'r,WB,Nat.reduceAdd,z'r,z'N,T69];try(refine fun(bq:Nat) hbq=>?_;(try simp only[HB]at hbq)))
   |(apply VCm.step T (by rfl) (by rfl) rfl rfl;focus((try simp (disch:=omega) only[go_sem,Nat.reduceBEq,Nat.reduceAdd,Nat.reduceMul,Nat.reduceSub,Nat.reduceLeDiff,Int.reduceToNat]);(first|exact rfl|exact⟨rfl,rfl⟩|(refine⟨?_,rfl⟩;try(first|omega|exact⟨rfl,by decide⟩|exact rfl)))))
   |(apply VCm.alloc T;(case h1=>rfl);(case hg=>rfl);(case hop=>rfl);(case hd=>rfl);(case hk=>rfl);(case hz=>rfl))
   |(apply VCm.store T;(case h1=>rfl);(case h2=>rfl);(case hg=>rfl);(case hd=>rfl);(case hc=>(intro b hb;(try simp (disch:=omega) only[go_sem,Nat.reduceBEq,Nat.reduceAdd,Nat.reduceMul,Nat.reduceSub,Nat.reduceLeDiff,Int.reduceToNat]);first|omega|(refine⟨?_,?_⟩;focus(first|omega|exact⟨rfl,by decide⟩|exact rfl);exact⟨rfl,rfl⟩)|exact rfl|exact⟨rfl,rfl⟩));(case hz=>(first|rfl|(simp;done))))
   |(refine gn ?_)
   |(refine VCg.nil T ?_;simp only[x'r,WB,Nat.reduceAdd,T69];try(refine fun(bq:Nat) hbq=>?_;(try simp only[HB]at hbq)))
   |((first|apply VCg.step T rfl rfl|apply exF);focus((try simp (disch:=omega) only[go_sem,Nat.reduceBEq,Nat.reduceAdd,Nat.reduceMul,Nat.reduceSub,Nat.reduceLeDiff,Int.reduceToNat]);(first|exact rfl|exact⟨rfl,rfl⟩|(refine⟨?_,rfl⟩;try(first|omega|exact⟨rfl,by decide⟩|exact rfl)))))
   |(refine VCg.alloc T rfl rfl rfl rfl rfl ?_)
   |(refine VCg.gstep T rfl rfl rfl rfl ?_;try simp only[GB])
   |(refine VCg.gundef T rfl rfl rfl rfl ?_;try simp only[updO])
   |(refine vs T rfl fun K hK=>?_;(try simp (disch:=omega) only[go_sem,Nat.reduceBEq,Nat.reduceAdd,Nat.reduceMul,Nat.reduceSub,Nat.reduceLeDiff,Int.reduceToNat]);(first|(refine hK _ _ ?_;clear hK K)|(refine⟨_,_,_,_,(by repeat (first|exact Sp.here|exact Sp.nil|apply Sp.cons|apply Sp.over)),?_,(by first|exact⟨rfl,rfl⟩|exact⟨rfl,rfl,rfl⟩),⟨by decide,?_⟩,fun g' hg'=>hK _ _ ?_⟩<;>clear hK K)|(refine⟨_,_,_,_,(by repeat (first|exact Sp.here|exact Sp.nil|apply Sp.cons|apply Sp.over)),?_,(by first|exact⟨rfl,rfl⟩|exact⟨rfl,rfl,rfl⟩),?_,fun g' hg'=>hK _ _ ?_⟩<;>clear hK K)|(intro bq hbq;(try simp only[HB]at hbq);refine hK _ _ ?_;clear hK K)|(refine⟨?_,hK _ _ ?_⟩<;>clear hK K;focus(try(first|omega|exact⟨rfl,by decide⟩|exact rfl)))|(refine⟨_,?_,hK _ _ ?_⟩<;>clear hK K)|skip))
   |(refine st rfl ?_)
   |(refine sc rfl ?_)
   |(refine nl ?_)
   |(refine gs rfl rfl ?_)
   |(refine gu rfl rfl ?_)
   |(refine ov ?_)
   |(with_reducible refine gt ?_ ?_;focus(simp (disch:=omega) only[go_sem,Nat.reduceBEq,Nat.reduceAdd,Nat.reduceMul,Nat.reduceSub,Nat.reduceLeDiff,Int.reduceToNat];done))
   |(with_reducible refine gf ?_ ?_;focus(simp (disch:=omega) only[go_sem,Nat.reduceBEq,Nat.reduceAdd,Nat.reduceMul,Nat.reduceSub,Nat.reduceLeDiff,Int.reduceToNat];done))
   |(with_reducible refine z'n (fun hc=>?_) (fun hc=>?_)<;>(try simp only[decide_eq_true_eq,decide_eq_false_iff_not,beq_iff_eq,beq_eq_false_iff_ne,bne_iff_ne,bne_eq_false_iff_eq,ne_eq,z'x,z'B,Bool.not_eq_true,Bool.not_eq_false,ge_iff_le,gt_iff_lt,y'b,z'w,Decidable.not_not]at hc)<;>(try(exfalso;omega)))
  refine Op1.callG (Hp:=shp gl 149 3 (Zc0 (edS S)).flatten []) (Hr:=(bq,.cells 57 6 (spD bc cc gp gb S.cf.length S.pa.length S.ag.length))::(b10,.cells 69 4 (cfC (x'3 u)))::(b8,.cells 57 6 spZ)::(bc,.cells 69 (cc*4) (w't S.cf).flatten)::shp gp 3 1 (S.pa.map iD) (shp gb 3 1 (S.ag.map iD) [])) rfl rfl rfl
   (Fun.lendF cb (z'u (Fz.refl _ _) (z'u (ZtW hgl fun b cap e=>by subst e;exact x'J) x'9))) (y'X fun a=>by simp only[y'z,y'6,y'M,y'V];omega) (fun d H' h=>?_)
  obtain⟨rfl,rfl⟩:=h
  refine hK _ _ ?_
  clear hK K
  simp only[y'i]
  repeat' first
   |(refine dr (id:=14) T 8 (by kernel_rfl) ?_)
   |(refine dr (id:=26) T 7 (by kernel_rfl) ?_)
   |(apply VC.drawM (id:=18) T 18 16 17 (s:=17) (ty:=69) rfl rfl rfl (by kernel_rfl) (by kernel_rfl) (by kernel_rfl) (by kernel_rfl))
   |(refine VCm.nil T ?_;simp only[x'r,WB,Nat.reduceAdd,z'r,z'N,T69];try(refine fun(bq:Nat) hbq=>?_;(try simp only[HB]at hbq)))
   |(apply VCm.step T (by rfl) (by rfl) rfl rfl;focus((try simp (disch:=omega) only[go_sem,Nat.reduceBEq,Nat.reduceAdd,Nat.reduceMul,Nat.reduceSub,Nat.reduceLeDiff,Int.reduceToNat]);(first|exact rfl|exact⟨rfl,rfl⟩|(refine⟨?_,rfl⟩;try(first|omega|exact⟨rfl,by decide⟩|exact rfl)))))
   |(apply VCm.alloc T;(case h1=>rfl);(case hg=>rfl);(case hop=>rfl);(case hd=>rfl);(case hk=>rfl);(case hz=>rfl))
   |(apply VCm.store T;(case h1=>rfl);(case h2=>rfl);(case hg=>rfl);(case hd=>rfl);(case hc=>(intro b hb;(try simp (disch:=omega) only[go_sem,Nat.reduceBEq,Nat.reduceAdd,Nat.reduceMul,Nat.reduceSub,Nat.reduceLeDiff,Int.reduceToNat]);first|omega|(refine⟨?_,?_⟩;focus(first|omega|exact⟨rfl,by decide⟩|exact rfl);exact⟨rfl,rfl⟩)|exact rfl|exact⟨rfl,rfl⟩));(case hz=>(first|rfl|(simp;done))))
   |(refine gn ?_)
   |(refine VCg.nil T ?_;simp only[x'r,WB,Nat.reduceAdd,T69];try(refine fun(bq:Nat) hbq=>?_;(try simp only[HB]at hbq)))
   |((first|apply VCg.step T rfl rfl|apply exF);focus((try simp (disch:=omega) only[go_sem,Nat.reduceBEq,Nat.reduceAdd,Nat.reduceMul,Nat.reduceSub,Nat.reduceLeDiff,Int.reduceToNat]);(first|exact rfl|exact⟨rfl,rfl⟩|(refine⟨?_,rfl⟩;try(first|omega|exact⟨rfl,by decide⟩|exact rfl)))))
   |(refine VCg.alloc T rfl rfl rfl rfl rfl ?_)
   |(refine VCg.gstep T rfl rfl rfl rfl ?_;try simp only[GB])
   |(refine VCg.gundef T rfl rfl rfl rfl ?_;try simp only[updO])
   |(refine vs T rfl fun K hK=>?_;(try simp (disch:=omega) only[go_sem,Nat.reduceBEq,Nat.reduceAdd,Nat.reduceMul,Nat.reduceSub,Nat.reduceLeDiff,Int.reduceToNat]);(first|(refine hK _ _ ?_;clear hK K)|(refine⟨_,_,_,_,(by repeat (first|exact Sp.here|exact Sp.nil|apply Sp.cons|apply Sp.over)),?_,(by first|exact⟨rfl,rfl⟩|exact⟨rfl,rfl,rfl⟩),⟨by decide,?_⟩,fun g' hg'=>hK _ _ ?_⟩<;>clear hK K)|(refine⟨_,_,_,_,(by repeat (first|exact Sp.here|exact Sp.nil|apply Sp.cons|apply Sp.over)),?_,(by first|exact⟨rfl,rfl⟩|exact⟨rfl,rfl,rfl⟩),?_,fun g' hg'=>hK _ _ ?_⟩<;>clear hK K)|(intro bq hbq;(try simp only[HB]at hbq);refine hK _ _ ?_;clear hK K)|(refine⟨?_,hK _ _ ?_⟩<;>clear hK K;focus(try(first|omega|exact⟨rfl,by decide⟩|exact rfl)))|(refine⟨_,?_,hK _ _ ?_⟩<;>clear hK K)|skip))
   |(refine st rfl ?_)
   |(refine sc rfl ?_)
   |(refine nl ?_)
   |(refine gs rfl rfl ?_)
   |(refine gu rfl rfl ?_)
   |(refine ov ?_)
   |(with_reducible refine gt ?_ ?_;focus(simp (disch:=omega) only[go_sem,Nat.reduceBEq,Nat.reduceAdd,Nat.reduceMul,Nat.reduceSub,Nat.reduceLeDiff,Int.reduceToNat];done))
   |(with_reducible refine gf ?_ ?_;focus(simp (disch:=omega) only[go_sem,Nat.reduceBEq,Nat.reduceAdd,Nat.reduceMul,Nat.reduceSub,Nat.reduceLeDiff,Int.reduceToNat];done))
   |(with_reducible refine z'n (fun hc=>?_) (fun hc=>?_)<;>(try simp only[decide_eq_true_eq,decide_eq_false_iff_not,beq_iff_eq,beq_eq_false_iff_ne,bne_iff_ne,bne_eq_false_iff_eq,ne_eq,z'x,z'B,Bool.not_eq_true,Bool.not_eq_false,ge_iff_le,gt_iff_lt,y'b,z'w,Decidable.not_not]at hc)<;>(try(exfalso;omega)))
  exact x'8 T rfl (by(try simp (disch:=omega) only[hget_ne,hget_eq]);rfl) rfl rfl rfl (z'v _) (ZtX hcc hgp hgb fun x hx=>z'd _ (z'd _ (z'd _ (z'd _ hx))))
 have hat:=Zae (d:=(default:Cf)) hlt
 have hR:=hrt _ (x'p (d:=(default:Cf)) hlt)
 have cm:=ZpR hR
 rw[show B+1-i=(B-i)+1 by omega,ZrC hat]at hE
 have hml:=ZpA (u:=u) (c:=S.cf.getD i default) (m:=m) (r:=r)
 generalize hM:Zb4 u (S.cf.getD i default) m r=M at*
 repeat' first
  |(refine vb (t:=32) rfl rfl rfl rfl ?_)
  |(refine dr (id:=14) T 8 (by kernel_rfl) ?_)
  |(refine dr (id:=26) T 7 (by kernel_rfl) ?_)
  |(apply VC.drawM (id:=18) T 18 16 17 (s:=17) (ty:=69) rfl rfl rfl (by kernel_rfl) (by kernel_rfl) (by kernel_rfl) (by kernel_rfl))
  |(refine VCm.nil T ?_;simp only[x'r,WB,Nat.reduceAdd,z'r,z'N,T69];try(refine fun(bq:Nat) hbq=>?_;(try simp only[HB]at hbq)))
  |(apply VCm.step T (by rfl) (by rfl) rfl rfl;focus((try simp (disch:=omega) only[go_sem,Nat.reduceBEq,Nat.reduceAdd,Nat.reduceMul,Nat.reduceSub,Nat.reduceLeDiff,Int.reduceToNat,y'E,w'g,z'e]);(first|exact rfl|exact⟨rfl,rfl⟩|(refine⟨?_,rfl⟩;try(first|omega|exact⟨rfl,by decide⟩|exact rfl))|(refine Op1.callp rfl rfl (cm) rfl ?_;exact⟨rfl,rfl⟩))))
  |(apply VCm.alloc T;(case h1=>rfl);(case hg=>rfl);(case hop=>rfl);(case hd=>rfl);(case hk=>rfl);(case hz=>rfl))
  |(apply VCm.store T;(case h1=>rfl);(case h2=>rfl);(case hg=>rfl);(case hd=>rfl);(case hc=>(intro b hb;(try simp (disch:=omega) only[go_sem,Nat.reduceBEq,Nat.reduceAdd,Nat.reduceMul,Nat.reduceSub,Nat.reduceLeDiff,Int.reduceToNat,y'E,w'g,z'e]);first|omega|(refine⟨?_,?_⟩;focus(first|omega|exact⟨rfl,by decide⟩|exact rfl);exact⟨rfl,rfl⟩)|exact rfl|exact⟨rfl,rfl⟩));(case hz=>(first|rfl|(simp;done))))
  |(refine gn ?_)
  |(refine VCg.nil T ?_;simp only[x'r,WB,Nat.reduceAdd,T69];try(refine fun(bq:Nat) hbq=>?_;(try simp only[HB]at hbq)))
  |((first|apply VCg.step T rfl rfl|apply exF);focus((try simp (disch:=omega) only[go_sem,Nat.reduceBEq,Nat.reduceAdd,Nat.reduceMul,Nat.reduceSub,Nat.reduceLeDiff,Int.reduceToNat,y'E,w'g,z'e]);(first|exact rfl|exact⟨rfl,rfl⟩|(refine⟨?_,rfl⟩;try(first|omega|exact⟨rfl,by decide⟩|exact rfl))|(refine Op1.callp rfl rfl (cm) rfl ?_;exact⟨rfl,rfl⟩))))
  |(refine VCg.alloc T rfl rfl rfl rfl rfl ?_)
  |(refine VCg.gstep T rfl rfl rfl rfl ?_;try simp only[GB])
  |(refine VCg.gundef T rfl rfl rfl rfl ?_;try simp only[updO])
  |(refine vs T rfl fun K hK=>?_;(try simp (disch:=omega) only[go_sem,Nat.reduceBEq,Nat.reduceAdd,Nat.reduceMul,Nat.reduceSub,Nat.reduceLeDiff,Int.reduceToNat,y'E,w'g,z'e]);(first|(refine hK _ _ ?_;clear hK K)|(refine⟨_,_,_,_,(by repeat (first|exact Sp.here|exact Sp.hereS|apply Sp.cons|exact Sp.nil|apply Sp.over)),?_,(by first|exact⟨rfl,rfl⟩|exact⟨rfl,rfl,rfl⟩),⟨by decide,?_⟩,fun g' hg'=>hK _ _ ?_⟩<;>clear hK K)|(refine⟨_,_,_,_,(by repeat (first|exact Sp.here|exact Sp.hereS|apply Sp.cons|exact Sp.nil|apply Sp.over)),?_,(by first|exact⟨rfl,rfl⟩|exact⟨rfl,rfl,rfl⟩),?_,fun g' hg'=>hK _ _ ?_⟩<;>clear hK K)|(intro bq hbq;(try simp only[HB]at hbq);refine hK _ _ ?_;clear hK K)|(refine⟨?_,hK _ _ ?_⟩<;>clear hK K;focus(try(first|omega|exact⟨rfl,by decide⟩|exact rfl)))|(refine⟨_,?_,hK _ _ ?_⟩<;>clear hK K)|(refine Op1.callp rfl rfl (cm) rfl ?_;refine hK _ _ ?_;clear hK K)|skip))
  |(refine st rfl ?_)
  |(refine sc rfl ?_)
  |(refine nl ?_)
  |(refine gs rfl rfl ?_)
  |(refine gu rfl rfl ?_)
  |(refine ov ?_)
  |(with_reducible refine gt ?_ ?_;focus(simp (disch:=omega) only[go_sem,Nat.reduceBEq,Nat.reduceAdd,Nat.reduceMul,Nat.reduceSub,Nat.reduceLeDiff,Int.reduceToNat,y'E,w'g,z'e];done))
  |(with_reducible refine gf ?_ ?_;focus(simp (disch:=omega) only[go_sem,Nat.reduceBEq,Nat.reduceAdd,Nat.reduceMul,Nat.reduceSub,Nat.reduceLeDiff,Int.reduceToNat,y'E,w'g,z'e];done))
  |(with_reducible refine z'n (fun hc=>?_) (fun hc=>?_)<;>(try simp only[decide_eq_true_eq,decide_eq_false_iff_not,beq_iff_eq,beq_eq_false_iff_ne,bne_iff_ne,bne_eq_false_iff_eq,ne_eq,z'x,z'B,Bool.not_eq_true,Bool.not_eq_false,ge_iff_le,gt_iff_lt,y'b,z'w,Decidable.not_not]at hc)<;>(try(exfalso;omega)))
 rename_i hc0
 obtain⟨c,hcd⟩: ∃c,c=S.cf.getD i default:=⟨_,rfl⟩
 rw[←hcd]at hat hR hE cm
 refine VC.loop {p:Spc Cf×Nat×(Nat×Nat)×Option (Nat×Nat)×Option (Nat×Nat)×Option (Nat×Nat)//p.2.1≤M.length∧p.1.cf.length≤B∧(i<p.1.cf.length∧p.1.cf.getD i default=c)∧(p.1.pa.length=p.1.cf.length∧p.1.ag.length=p.1.cf.length∧p.1.ed.length≤28*i+p.2.1)∧(∀c,c∈p.1.cf→Rt u c m r)∧
   ZcZ u m r B=(v'N (fun c a=>actM u c m r a) B i c (M.drop p.2.1) p.1).bind (w'x (fun c=>Zb4 u c m r) (fun c a=>actM u c m r a) B (B-i) (i+1))∧(p.1.cf.length≤p.2.2.1.2∧gOk p.2.2.2.1 p.1.pa.length∧gOk p.2.2.2.2.1 p.1.ag.length)}
  (fun p=>⟨z'T [(1,iD m),(2,iD r),(3,iD (B:Nat)),(4,.pt (unC u)),(8,pD b8),(12,pD bq),(13,.gs p.1.2.2.2.2.2 p.1.1.ed.length),(14,iD (i:Nat)),(15,y'r M),(16,iD (p.1.2.1:Nat))],
   (bq,.cells 57 6 (spD p.1.2.2.1.1 p.1.2.2.1.2 p.1.2.2.2.1 p.1.2.2.2.2.1 p.1.1.cf.length p.1.1.pa.length p.1.1.ag.length))::(b10,.cells 69 4 (cfC (x'3 u)))::(b8,.cells 57 6 spZ)::spH p.1.2.2.1.1 p.1.2.2.1.2 p.1.2.2.2.1 p.1.2.2.2.2.1 p.1.2.2.2.2.2 p.1.1⟩)
  (fun p=>M.length-p.1.2.1) ⟨(S,0,(bc,cc),gp,gb,gl),by dsimp only;exact⟨z'A _,hSb,⟨hlt,hcd.symm⟩,⟨hpa,hag,by omega⟩,hrt,by rw[x's];exact hE,⟨hcc,hgp,hgb⟩⟩⟩ ?_ ?_
 ·refine z'Q rfl ?_
  simp[sub,upd]
 clear hat hlt hcd hE hrt hed hag hpa hS1 hSb hcc hgp hgb hi q1 q2 q3 q4 q5 q6 cm hc0
 rintro⟨⟨S',k,⟨bc,cc⟩,gp,gb,gl⟩,hk,hSb,⟨hlt,hcd⟩,⟨hpa,hag,hed⟩,hrt,hE,hcc,hgp,hgb⟩
 dsimp only at hk hSb hlt hcd hpa hag hed hrt hE hcc hgp hgb⊢
 refine VC.nodup fun hn=>?_
 simp only[Heap.blocks,z's,x'Y,z'F,not_or]at hn
 obtain⟨⟨q1,q2,q3,_⟩,⟨q4,q5,_⟩,⟨q6,_⟩,_⟩:=hn
 rcases z'i k M.length with hkl|hge
 case inr=>
  obtain rfl:k=M.length:=by omega
  rw[List.drop_length]at hE
  simp only[v'N,w'F]at hE
  repeat' first
   |(refine dr (id:=14) T 8 (by kernel_rfl) ?_)
   |(refine dr (id:=26) T 7 (by kernel_rfl) ?_)
   |(apply VC.drawM (id:=18) T 18 16 17 (s:=17) (ty:=69) rfl rfl rfl (by kernel_rfl) (by kernel_rfl) (by kernel_rfl) (by kernel_rfl))
   |(refine VCm.nil T ?_;simp only[x'r,WB,Nat.reduceAdd,z'r,z'N,T69];try(refine fun(bq:Nat) hbq=>?_;(try simp only[HB]at hbq)))
   |(apply VCm.step T (by rfl) (by rfl) rfl rfl;focus((try simp (disch:=omega) only[go_sem,Nat.reduceBEq,Nat.reduceAdd,Nat.reduceMul,Nat.reduceSub,Nat.reduceLeDiff,Int.reduceToNat,z'o,w64]);(first|exact rfl|exact⟨rfl,rfl⟩|(refine⟨?_,rfl⟩;try(first|omega|exact⟨rfl,by decide⟩|exact rfl)))))
   |(apply VCm.alloc T;(case h1=>rfl);(case hg=>rfl);(case hop=>rfl);(case hd=>rfl);(case hk=>rfl);(case hz=>rfl))
   |(apply VCm.store T;(case h1=>rfl);(case h2=>rfl);(case hg=>rfl);(case hd=>rfl);(case hc=>(intro b hb;(try simp (disch:=omega) only[go_sem,Nat.reduceBEq,Nat.reduceAdd,Nat.reduceMul,Nat.reduceSub,Nat.reduceLeDiff,Int.reduceToNat,z'o,w64]);first|omega|(refine⟨?_,?_⟩;focus(first|omega|exact⟨rfl,by decide⟩|exact rfl);exact⟨rfl,rfl⟩)|exact rfl|exact⟨rfl,rfl⟩));(case hz=>(first|rfl|(simp;done))))
   |(refine gn ?_)
   |(refine VCg.nil T ?_;simp only[x'r,WB,Nat.reduceAdd,T69];try(refine fun(bq:Nat) hbq=>?_;(try simp only[HB]at hbq)))
   |((first|apply VCg.step T rfl rfl|apply exF);focus((try simp (disch:=omega) only[go_sem,Nat.reduceBEq,Nat.reduceAdd,Nat.reduceMul,Nat.reduceSub,Nat.reduceLeDiff,Int.reduceToNat,z'o,w64]);(first|exact rfl|exact⟨rfl,rfl⟩|(refine⟨?_,rfl⟩;try(first|omega|exact⟨rfl,by decide⟩|exact rfl)))))
   |(refine VCg.alloc T rfl rfl rfl rfl rfl ?_)
   |(refine VCg.gstep T rfl rfl rfl rfl ?_;try simp only[GB])
   |(refine VCg.gundef T rfl rfl rfl rfl ?_;try simp only[updO])
   |(refine vs T rfl fun K hK=>?_;(try simp (disch:=omega) only[go_sem,Nat.reduceBEq,Nat.reduceAdd,Nat.reduceMul,Nat.reduceSub,Nat.reduceLeDiff,Int.reduceToNat,z'o,w64]);(first|(refine hK _ _ ?_;clear hK K)|(refine⟨_,_,_,_,(by repeat (first|exact Sp.here|exact Sp.hereS|apply Sp.cons|exact Sp.nil|apply Sp.over)),?_,(by first|exact⟨rfl,rfl⟩|exact⟨rfl,rfl,rfl⟩),⟨by decide,?_⟩,fun g' hg'=>hK _ _ ?_⟩<;>clear hK K)|(refine⟨_,_,_,_,(by repeat (first|exact Sp.here|exact Sp.hereS|apply Sp.cons|exact Sp.nil|apply Sp.over)),?_,(by first|exact⟨rfl,rfl⟩|exact⟨rfl,rfl,rfl⟩),?_,fun g' hg'=>hK _ _ ?_⟩<;>clear hK K)|(intro bq hbq;(try simp only[HB]at hbq);refine hK _ _ ?_;clear hK K)|(refine⟨?_,hK _ _ ?_⟩<;>clear hK K;focus(try(first|omega|exact⟨rfl,by decide⟩|exact rfl)))|(refine⟨_,?_,hK _ _ ?_⟩<;>clear hK K)|skip))
   |(refine st rfl ?_)
   |(refine sc rfl ?_)
   |(refine nl ?_)
   |(refine gs rfl rfl ?_)
   |(refine gu rfl rfl ?_)
   |(refine ov ?_)
   |(with_reducible refine gt ?_ ?_;focus(simp (disch:=omega) only[go_sem,Nat.reduceBEq,Nat.reduceAdd,Nat.reduceMul,Nat.reduceSub,Nat.reduceLeDiff,Int.reduceToNat,z'o,w64];done))
   |(with_reducible refine gf ?_ ?_;focus(simp (disch:=omega) only[go_sem,Nat.reduceBEq,Nat.reduceAdd,Nat.reduceMul,Nat.reduceSub,Nat.reduceLeDiff,Int.reduceToNat,z'o,w64];done))
   |(with_reducible refine z'n (fun hc=>?_) (fun hc=>?_)<;>(try simp only[decide_eq_true_eq,decide_eq_false_iff_not,beq_iff_eq,beq_eq_false_iff_ne,bne_iff_ne,bne_eq_false_iff_eq,ne_eq,z'x,z'B,Bool.not_eq_true,Bool.not_eq_false,ge_iff_le,gt_iff_lt,y'b,z'w,Decidable.not_not]at hc)<;>(try(exfalso;omega)))
  refine⟨⟨(S',i+1,(bc,cc),gp,gb,gl),by dsimp only;exact⟨by omega,hSb,by omega,⟨hpa,hag,by omega⟩,hrt,by rw[hE,show B+1-(i+1)=B-i by omega],⟨hcc,hgp,hgb⟩⟩⟩,z'Q rfl ?_,by dsimp only;omega⟩
  simp[sub,upd]
 obtain⟨a,ha⟩: ∃a,a=M.getD k 0:=⟨_,rfl⟩
 have had:M.drop k=a::M.drop (k+1):=by rw[ha,x'x hkl,z'g,z'c hkl];rfl
 rw[had,ZpT]at hE
 have ra:=Zrt hR a
 have hd:=hR.actM a
 have cf:=Zo4 S'.cf ⟨[],[],[]⟩ S'.pa S'.ag (by omega) (fun c hc=>(hrt c hc).okC) (actM u c m r a) hd.okC
 generalize hD:actM u c m r a=d at*
 cases hx:ZhE S'.cf d with
 |some j=>
  rw[hx]at cf
  simp only[plI]at cf
  have hst:stepA (fun c a=>actM u c m r a) B i c S' a=some {S' with ed:=S'.ed++[(i,a,j)]}:=by
   unfold stepA
   simp only[hD]
   rw[show S'.cf.idxOf? d=some j from hx]
  rw[hst,w'F]at hE
  repeat' first
   |(refine vb (t:=32) rfl rfl rfl rfl ?_)
   |(refine dr (id:=14) T 8 (by kernel_rfl) ?_)
   |(refine dr (id:=26) T 7 (by kernel_rfl) ?_)
   |(apply VC.drawM (id:=18) T 18 16 17 (s:=17) (ty:=69) rfl rfl rfl (by kernel_rfl) (by kernel_rfl) (by kernel_rfl) (by kernel_rfl))
   |(refine VCm.nil T ?_;simp only[x'r,WB,Nat.reduceAdd,z'r,z'N,T69];try(refine fun(bq:Nat) hbq=>?_;(try simp only[HB]at hbq)))
   |(apply VCm.step T (by rfl) (by rfl) rfl rfl;focus((try simp (disch:=omega) only[go_sem,Nat.reduceBEq,Nat.reduceAdd,Nat.reduceMul,Nat.reduceSub,Nat.reduceLeDiff,Int.reduceToNat,z'o,x'F,y'E,w'g,z'e,hcd, ←ha,w64]);(first|exact rfl|exact⟨rfl,rfl⟩|(refine⟨?_,rfl⟩;try(first|omega|exact⟨rfl,by decide⟩|exact rfl))|(refine Op1.callp rfl rfl (ra) rfl ?_;exact⟨rfl,rfl⟩)|(refine Op1.lend rfl rfl (cf) (z'u (ZbW hcc hgp hgb (fun x hx=>z'd _ (z'd _ (z'd _ (z'd _ hx))))) (FzL.refl _ _)) (.inr rfl) ?_;exact⟨rfl,rfl⟩))))
   |(apply VCm.alloc T;(case h1=>rfl);(case hg=>rfl);(case hop=>rfl);(case hd=>rfl);(case hk=>rfl);(case hz=>rfl))
   |(apply VCm.store T;(case h1=>rfl);(case h2=>rfl);(case hg=>rfl);(case hd=>rfl);(case hc=>(intro b hb;(try simp (disch:=omega) only[go_sem,Nat.reduceBEq,Nat.reduceAdd,Nat.reduceMul,Nat.reduceSub,Nat.reduceLeDiff,Int.reduceToNat,z'o,x'F,y'E,w'g,z'e,hcd, ←ha,w64]);first|omega|(refine⟨?_,?_⟩;focus(first|omega|exact⟨rfl,by decide⟩|exact rfl);exact⟨rfl,rfl⟩)|exact rfl|exact⟨rfl,rfl⟩));(case hz=>(first|rfl|(simp;done))))
   |(refine gn ?_)
   |(refine VCg.nil T ?_;simp only[x'r,WB,Nat.reduceAdd,T69];try(refine fun(bq:Nat) hbq=>?_;(try simp only[HB]at hbq)))
   |((first|apply VCg.step T rfl rfl|apply exF);focus((try simp (disch:=omega) only[go_sem,Nat.reduceBEq,Nat.reduceAdd,Nat.reduceMul,Nat.reduceSub,Nat.reduceLeDiff,Int.reduceToNat,z'o,x'F,y'E,w'g,z'e,hcd, ←ha,w64]);(first|exact rfl|exact⟨rfl,rfl⟩|(refine⟨?_,rfl⟩;try(first|omega|exact⟨rfl,by decide⟩|exact rfl))|(refine Op1.callp rfl rfl (ra) rfl ?_;exact⟨rfl,rfl⟩)|(refine Op1.lend rfl rfl (cf) (z'u (ZbW hcc hgp hgb (fun x hx=>z'd _ (z'd _ (z'd _ (z'd _ hx))))) (FzL.refl _ _)) (.inr rfl) ?_;exact⟨rfl,rfl⟩))))
   |(refine VCg.alloc T rfl rfl rfl rfl rfl ?_)
   |(refine VCg.gstep T rfl rfl rfl rfl ?_;try simp only[GB])
   |(refine VCg.gundef T rfl rfl rfl rfl ?_;try simp only[updO])
   |(refine vs T rfl fun K hK=>?_;(try simp (disch:=omega) only[go_sem,Nat.reduceBEq,Nat.reduceAdd,Nat.reduceMul,Nat.reduceSub,Nat.reduceLeDiff,Int.reduceToNat,z'o,x'F,y'E,w'g,z'e,hcd, ←ha,w64]);(first|(refine hK _ _ ?_;clear hK K)|(refine⟨_,_,_,_,(by repeat (first|exact Sp.here|exact Sp.hereS|apply Sp.cons|exact Sp.nil|apply Sp.over)),?_,(by first|exact⟨rfl,rfl⟩|exact⟨rfl,rfl,rfl⟩),⟨by decide,?_⟩,fun g' hg'=>hK _ _ ?_⟩<;>clear hK K)|(refine⟨_,_,_,_,(by repeat (first|exact Sp.here|exact Sp.hereS|apply Sp.cons|exact Sp.nil|apply Sp.over)),?_,(by first|exact⟨rfl,rfl⟩|exact⟨rfl,rfl,rfl⟩),?_,fun g' hg'=>hK _ _ ?_⟩<;>clear hK K)|(intro bq hbq;(try simp only[HB]at hbq);refine hK _ _ ?_;clear hK K)|(refine⟨?_,hK _ _ ?_⟩<;>clear hK K;focus(try(first|omega|exact⟨rfl,by decide⟩|exact rfl)))|(refine⟨_,?_,hK _ _ ?_⟩<;>clear hK K)|(refine Op1.callp rfl rfl (ra) rfl ?_;refine hK _ _ ?_;clear hK K)|(refine Op1.lend rfl rfl (cf) (z'u (ZbW hcc hgp hgb (fun x hx=>z'd _ (z'd _ (z'd _ (z'd _ hx))))) (FzL.refl _ _)) (.inr rfl) ?_;refine hK _ _ ?_;clear hK K)|skip))
   |(refine st rfl ?_)
   |(refine sc rfl ?_)
   |(refine nl ?_)
   |(refine gs rfl rfl ?_)
   |(refine gu rfl rfl ?_)
   |(refine ov ?_)
   |(with_reducible refine gt ?_ ?_;focus(simp (disch:=omega) only[go_sem,Nat.reduceBEq,Nat.reduceAdd,Nat.reduceMul,Nat.reduceSub,Nat.reduceLeDiff,Int.reduceToNat,z'o,x'F,y'E,w'g,z'e,hcd, ←ha,w64];done))
   |(with_reducible refine gf ?_ ?_;focus(simp (disch:=omega) only[go_sem,Nat.reduceBEq,Nat.reduceAdd,Nat.reduceMul,Nat.reduceSub,Nat.reduceLeDiff,Int.reduceToNat,z'o,x'F,y'E,w'g,z'e,hcd, ←ha,w64];done))
   |(with_reducible refine z'n (fun hc=>?_) (fun hc=>?_)<;>(try simp only[decide_eq_true_eq,decide_eq_false_iff_not,beq_iff_eq,beq_eq_false_iff_ne,bne_iff_ne,bne_eq_false_iff_eq,ne_eq,z'x,z'B,Bool.not_eq_true,Bool.not_eq_false,ge_iff_le,gt_iff_lt,y'b,z'w,Decidable.not_not]at hc)<;>(try(exfalso;omega)))
  ·rw[ZmR,Zgy]
  ·omega
  ·refine⟨⟨({S' with ed:=S'.ed++[(i,a,j)]},k+1,(bc,cc),gp,gb,g'),by dsimp only;exact⟨by omega,hSb,⟨hlt,hcd⟩,⟨hpa,hag,by simp only[z'j,z'r,z'N];omega⟩,hrt,hE,⟨hcc,hgp,hgb⟩⟩⟩,y'U ?_ ?_,by dsimp only;omega⟩
   ·dsimp only
    simp only[spH,ZkV,ZkU]
    rfl
   ·simp[sub,upd]
 |none=>
  rw[hx]at cf
  simp only[plI]at cf
  rcases z'i S'.cf.length B with hB|hB
  case inr=>
   have hst:stepA (fun c a=>actM u c m r a) B i c S' a=none:=by
    unfold stepA
    simp only[hD]
    rw[show S'.cf.idxOf? d=none from hx]
    simp only[decide_eq_false (Nat.not_lt.2 hB)]
   rw[hst]at hE
   simp only[Option.bind_none]at hE
   repeat' first
    |(refine vb (t:=32) rfl rfl rfl rfl ?_)
    |(refine dr (id:=14) T 8 (by kernel_rfl) ?_)
    |(refine dr (id:=26) T 7 (by kernel_rfl) ?_)
    |(apply VC.drawM (id:=18) T 18 16 17 (s:=17) (ty:=69) rfl rfl rfl (by kernel_rfl) (by kernel_rfl) (by kernel_rfl) (by kernel_rfl))
    |(refine VCm.nil T ?_;simp only[x'r,WB,Nat.reduceAdd,z'r,z'N,T69];try(refine fun(bq:Nat) hbq=>?_;(try simp only[HB]at hbq)))
    |(apply VCm.step T (by rfl) (by rfl) rfl rfl;focus((try simp (disch:=omega) only[go_sem,Nat.reduceBEq,Nat.reduceAdd,Nat.reduceMul,Nat.reduceSub,Nat.reduceLeDiff,Int.reduceToNat,z'o,x'F,y'E,w'g,z'e,hcd, ←ha,w64]);(first|exact rfl|exact⟨rfl,rfl⟩|(refine⟨?_,rfl⟩;try(first|omega|exact⟨rfl,by decide⟩|exact rfl))|(refine Op1.callp rfl rfl (ra) rfl ?_;exact⟨rfl,rfl⟩)|(refine Op1.lend rfl rfl (cf) (z'u (ZbW hcc hgp hgb (fun x hx=>z'd _ (z'd _ (z'd _ (z'd _ hx))))) (FzL.refl _ _)) (.inr rfl) ?_;exact⟨rfl,rfl⟩))))
    |(apply VCm.alloc T;(case h1=>rfl);(case hg=>rfl);(case hop=>rfl);(case hd=>rfl);(case hk=>rfl);(case hz=>rfl))
    |(apply VCm.store T;(case h1=>rfl);(case h2=>rfl);(case hg=>rfl);(case hd=>rfl);(case hc=>(intro b hb;(try simp (disch:=omega) only[go_sem,Nat.reduceBEq,Nat.reduceAdd,Nat.reduceMul,Nat.reduceSub,Nat.reduceLeDiff,Int.reduceToNat,z'o,x'F,y'E,w'g,z'e,hcd, ←ha,w64]);first|omega|(refine⟨?_,?_⟩;focus(first|omega|exact⟨rfl,by decide⟩|exact rfl);exact⟨rfl,rfl⟩)|exact rfl|exact⟨rfl,rfl⟩));(case hz=>(first|rfl|(simp;done))))
    |(refine gn ?_)
    |(refine VCg.nil T ?_;simp only[x'r,WB,Nat.reduceAdd,T69];try(refine fun(bq:Nat) hbq=>?_;(try simp only[HB]at hbq)))
    |((first|apply VCg.step T rfl rfl|apply exF);focus((try simp (disch:=omega) only[go_sem,Nat.reduceBEq,Nat.reduceAdd,Nat.reduceMul,Nat.reduceSub,Nat.reduceLeDiff,Int.reduceToNat,z'o,x'F,y'E,w'g,z'e,hcd, ←ha,w64]);(first|exact rfl|exact⟨rfl,rfl⟩|(refine⟨?_,rfl⟩;try(first|omega|exact⟨rfl,by decide⟩|exact rfl))|(refine Op1.callp rfl rfl (ra) rfl ?_;exact⟨rfl,rfl⟩)|(refine Op1.lend rfl rfl (cf) (z'u (ZbW hcc hgp hgb (fun x hx=>z'd _ (z'd _ (z'd _ (z'd _ hx))))) (FzL.refl _ _)) (.inr rfl) ?_;exact⟨rfl,rfl⟩))))
    |(refine VCg.alloc T rfl rfl rfl rfl rfl ?_)
    |(refine VCg.gstep T rfl rfl rfl rfl ?_;try simp only[GB])
    |(refine VCg.gundef T rfl rfl rfl rfl ?_;try simp only[updO])
    |(refine vs T rfl fun K hK=>?_;(try simp (disch:=omega) only[go_sem,Nat.reduceBEq,Nat.reduceAdd,Nat.reduceMul,Nat.reduceSub,Nat.reduceLeDiff,Int.reduceToNat,z'o,x'F,y'E,w'g,z'e,hcd, ←ha,w64]);(first|(refine hK _ _ ?_;clear hK K)|(refine⟨_,_,_,_,(by repeat (first|exact Sp.here|exact Sp.hereS|apply Sp.cons|exact Sp.nil|apply Sp.over)),?_,(by first|exact⟨rfl,rfl⟩|exact⟨rfl,rfl,rfl⟩),⟨by decide,?_⟩,fun g' hg'=>hK _ _ ?_⟩<;>clear hK K)|(refine⟨_,_,_,_,(by repeat (first|exact Sp.here|exact Sp.hereS|apply Sp.cons|exact Sp.nil|apply Sp.over)),?_,(by first|exact⟨rfl,rfl⟩|exact⟨rfl,rfl,rfl⟩),?_,fun g' hg'=>hK _ _ ?_⟩<;>clear hK K)|(intro bq hbq;(try simp only[HB]at hbq);refine hK _ _ ?_;clear hK K)|(refine⟨?_,hK _ _ ?_⟩<;>clear hK K;focus(try(first|omega|exact⟨rfl,by decide⟩|exact rfl)))|(refine⟨_,?_,hK _ _ ?_⟩<;>clear hK K)|(refine Op1.callp rfl rfl (ra) rfl ?_;refine hK _ _ ?_;clear hK K)|(refine Op1.lend rfl rfl (cf) (z'u (ZbW hcc hgp hgb (fun x hx=>z'd _ (z'd _ (z'd _ (z'd _ hx))))) (FzL.refl _ _)) (.inr rfl) ?_;refine hK _ _ ?_;clear hK K)|skip))
    |(refine st rfl ?_)
    |(refine sc rfl ?_)
    |(refine nl ?_)
    |(refine gs rfl rfl ?_)
    |(refine gu rfl rfl ?_)
    |(refine ov ?_)
    |(with_reducible refine gt ?_ ?_;focus(simp (disch:=omega) only[go_sem,Nat.reduceBEq,Nat.reduceAdd,Nat.reduceMul,Nat.reduceSub,Nat.reduceLeDiff,Int.reduceToNat,z'o,x'F,y'E,w'g,z'e,hcd, ←ha,w64];done))
    |(with_reducible refine gf ?_ ?_;focus(simp (disch:=omega) only[go_sem,Nat.reduceBEq,Nat.reduceAdd,Nat.reduceMul,Nat.reduceSub,Nat.reduceLeDiff,Int.reduceToNat,z'o,x'F,y'E,w'g,z'e,hcd, ←ha,w64];done))
    |(with_reducible refine z'n (fun hc=>?_) (fun hc=>?_)<;>(try simp only[decide_eq_true_eq,decide_eq_false_iff_not,beq_iff_eq,beq_eq_false_iff_ne,bne_iff_ne,bne_eq_false_iff_eq,ne_eq,z'x,z'B,Bool.not_eq_true,Bool.not_eq_false,ge_iff_le,gt_iff_lt,y'b,z'w,Decidable.not_not]at hc)<;>(try(exfalso;omega)))
   rw[hS0,hE0,hE]
   exact x'8 T rfl (by(try simp (disch:=omega) only[hget_ne,hget_eq]);rfl) rfl rfl rfl (z'a _) Zk3
  have hst:stepA (fun c a=>actM u c m r a) B i c S' a=some ⟨S'.cf++[d],S'.pa++[(i:Int)],S'.ag++[a],S'.ed++[(i,a,S'.cf.length)]⟩:=by
   unfold stepA
   simp only[hD]
   rw[show S'.cf.idxOf? d=none from hx]
   simp only[decide_eq_true hB]
  rw[hst,w'F]at hE
  repeat' first
   |(refine vb (t:=32) rfl rfl rfl rfl ?_)
   |(refine dr (id:=14) T 8 (by kernel_rfl) ?_)
   |(refine dr (id:=26) T 7 (by kernel_rfl) ?_)
   |(apply VC.drawM (id:=18) T 18 16 17 (s:=17) (ty:=69) rfl rfl rfl (by kernel_rfl) (by kernel_rfl) (by kernel_rfl) (by kernel_rfl))
   |(refine VCm.nil T ?_;simp only[x'r,WB,Nat.reduceAdd,z'r,z'N,T69];try(refine fun(bq:Nat) hbq=>?_;(try simp only[HB]at hbq)))
   |(apply VCm.step T (by rfl) (by rfl) rfl rfl;focus((try simp (disch:=omega) only[go_sem,Nat.reduceBEq,Nat.reduceAdd,Nat.reduceMul,Nat.reduceSub,Nat.reduceLeDiff,Int.reduceToNat,z'o,x'F,y'E,w'g,z'e,hcd, ←ha,w64]);(first|exact rfl|exact⟨rfl,rfl⟩|(refine⟨?_,rfl⟩;try(first|omega|exact⟨rfl,by decide⟩|exact rfl))|(refine Op1.callp rfl rfl (ra) rfl ?_;exact⟨rfl,rfl⟩)|(refine Op1.lend rfl rfl (cf) (z'u (ZbW hcc hgp hgb (fun x hx=>z'd _ (z'd _ (z'd _ (z'd _ hx))))) (FzL.refl _ _)) (.inr rfl) ?_;exact⟨rfl,rfl⟩))))
   |(apply VCm.alloc T;(case h1=>rfl);(case hg=>rfl);(case hop=>rfl);(case hd=>rfl);(case hk=>rfl);(case hz=>rfl))
   |(apply VCm.store T;(case h1=>rfl);(case h2=>rfl);(case hg=>rfl);(case hd=>rfl);(case hc=>(intro b hb;(try simp (disch:=omega) only[go_sem,Nat.reduceBEq,Nat.reduceAdd,Nat.reduceMul,Nat.reduceSub,Nat.reduceLeDiff,Int.reduceToNat,z'o,x'F,y'E,w'g,z'e,hcd, ←ha,w64]);first|omega|(refine⟨?_,?_⟩;focus(first|omega|exact⟨rfl,by decide⟩|exact rfl);exact⟨rfl,rfl⟩)|exact rfl|exact⟨rfl,rfl⟩));(case hz=>(first|rfl|(simp;done))))
   |(refine gn ?_)
   |(refine VCg.nil T ?_;simp only[x'r,WB,Nat.reduceAdd,T69];try(refine fun(bq:Nat) hbq=>?_;(try simp only[HB]at hbq)))
   |((first|apply VCg.step T rfl rfl|apply exF);focus((try simp (disch:=omega) only[go_sem,Nat.reduceBEq,Nat.reduceAdd,Nat.reduceMul,Nat.reduceSub,Nat.reduceLeDiff,Int.reduceToNat,z'o,x'F,y'E,w'g,z'e,hcd, ←ha,w64]);(first|exact rfl|exact⟨rfl,rfl⟩|(refine⟨?_,rfl⟩;try(first|omega|exact⟨rfl,by decide⟩|exact rfl))|(refine Op1.callp rfl rfl (ra) rfl ?_;exact⟨rfl,rfl⟩)|(refine Op1.lend rfl rfl (cf) (z'u (ZbW hcc hgp hgb (fun x hx=>z'd _ (z'd _ (z'd _ (z'd _ hx))))) (FzL.refl _ _)) (.inr rfl) ?_;exact⟨rfl,rfl⟩))))
   |(refine VCg.alloc T rfl rfl rfl rfl rfl ?_)
   |(refine VCg.gstep T rfl rfl rfl rfl ?_;try simp only[GB])
   |(refine VCg.gundef T rfl rfl rfl rfl ?_;try simp only[updO])
   |(refine vs T rfl fun K hK=>?_;(try simp (disch:=omega) only[go_sem,Nat.reduceBEq,Nat.reduceAdd,Nat.reduceMul,Nat.reduceSub,Nat.reduceLeDiff,Int.reduceToNat,z'o,x'F,y'E,w'g,z'e,hcd, ←ha,w64]);(first|(refine hK _ _ ?_;clear hK K)|(refine⟨_,_,_,_,(by repeat (first|exact Sp.here|exact Sp.hereS|apply Sp.cons|exact Sp.nil|apply Sp.over)),?_,(by first|exact⟨rfl,rfl⟩|exact⟨rfl,rfl,rfl⟩),⟨by decide,?_⟩,fun g' hg'=>hK _ _ ?_⟩<;>clear hK K)|(refine⟨_,_,_,_,(by repeat (first|exact Sp.here|exact Sp.hereS|apply Sp.cons|exact Sp.nil|apply Sp.over)),?_,(by first|exact⟨rfl,rfl⟩|exact⟨rfl,rfl,rfl⟩),?_,fun g' hg'=>hK _ _ ?_⟩<;>clear hK K)|(intro bq hbq;(try simp only[HB]at hbq);refine hK _ _ ?_;clear hK K)|(refine⟨?_,hK _ _ ?_⟩<;>clear hK K;focus(try(first|omega|exact⟨rfl,by decide⟩|exact rfl)))|(refine⟨_,?_,hK _ _ ?_⟩<;>clear hK K)|(refine Op1.callp rfl rfl (ra) rfl ?_;refine hK _ _ ?_;clear hK K)|(refine Op1.lend rfl rfl (cf) (z'u (ZbW hcc hgp hgb (fun x hx=>z'd _ (z'd _ (z'd _ (z'd _ hx))))) (FzL.refl _ _)) (.inr rfl) ?_;refine hK _ _ ?_;clear hK K)|skip))
   |(refine st rfl ?_)
   |(refine sc rfl ?_)
   |(refine nl ?_)
   |(refine gs rfl rfl ?_)
   |(refine gu rfl rfl ?_)
   |(refine ov ?_)
   |(with_reducible refine gt ?_ ?_;focus(simp (disch:=omega) only[go_sem,Nat.reduceBEq,Nat.reduceAdd,Nat.reduceMul,Nat.reduceSub,Nat.reduceLeDiff,Int.reduceToNat,z'o,x'F,y'E,w'g,z'e,hcd, ←ha,w64];done))
   |(with_reducible refine gf ?_ ?_;focus(simp (disch:=omega) only[go_sem,Nat.reduceBEq,Nat.reduceAdd,Nat.reduceMul,Nat.reduceSub,Nat.reduceLeDiff,Int.reduceToNat,z'o,x'F,y'E,w'g,z'e,hcd, ←ha,w64];done))
   |(with_reducible refine z'n (fun hc=>?_) (fun hc=>?_)<;>(try simp only[decide_eq_true_eq,decide_eq_false_iff_not,beq_iff_eq,beq_eq_false_iff_ne,bne_iff_ne,bne_eq_false_iff_eq,ne_eq,z'x,z'B,Bool.not_eq_true,Bool.not_eq_false,ge_iff_le,gt_iff_lt,y'b,z'w,Decidable.not_not]at hc)<;>(try(exfalso;omega)))
  ·exact y'E _
  ·omega
  ·simp
  ·omega
  ·simp
  ·omega
  ·rw[ZmR,Zgy]
  ·omega
  rename_i gc' hgc' gp' hgp' gb' hgb'
  rcases gc' with _|⟨bc',cc'⟩
  ·cases hgc'
  refine⟨⟨(⟨S'.cf++[d],S'.pa++[(i:Int)],S'.ag++[a],S'.ed++[(i,a,S'.cf.length)]⟩,k+1,(bc',cc'),gp',gb',g'),?_⟩,y'U ?_ ?_,by dsimp only;omega⟩
  ·dsimp only
   simp only[z'j,z'r,z'N,y'l]
   refine⟨by omega,by omega,⟨by omega,?_⟩,⟨by omega,by omega,by omega⟩,?_,hE,hgc',hgp',hgb'⟩
   ·rw[←hcd,z'g,y'o hlt,z'g]
   ·intro x hx
    rcases y'2.1 hx with hx|hx
    ·exact hrt x hx
    ·rw[y'F]at hx;rw[hx];exact hd
  ·dsimp only
   simp only[spH,ZkV,ZkU,ZkP,z'E,z's,y'Q,z'j,z'r,z'N,y'l]
   rfl
  ·simp[sub,upd]
end Go.Proofs.YthlkpnjjkgmlkaaGreat
