/- Contracts: a table without texts. No condition. -/
import Derived.Test.YtomcmfbpmkklmaaGreatCd
import Derived.Test.YtomcmfbpmkklmaaGreatYc
import Derived.Test.YtomcmfbpmkklmaaGreatFq
import Derived.Test.YtomcmfbpmkklmaaGreatDf
import Derived.Test.YtomcmfbpmkklmaaGreatYj
import Derived.Test.YtomcmfbpmkklmaaGreatBh
import Derived.Test.YtomcmfbpmkklmaaGreatCh
import Derived.Test.YtomcmfbpmkklmaaGreatSa
import Derived.Test.YtomcmfbpmkklmaaGreatRj
namespace Go.Proofs.YtomcmfbpmkklmaaGreat
set_option maxHeartbeats 16000000
set_option linter.unusedSimpArgs false
set_option linter.unusedVariables false
set_option maxRecDepth 20000
open Go Go.Proofs Go.Vc
attribute [local irreducible] y'0 VCg VCw VCx
abbrev zs16:List Int:=List.replicate 16 0
theorem ZoD:ZgK [] zs16:=by
 refine⟨?_,⟨4,by decide,by decide⟩,by decide,by decide⟩
 exact TI.none hm0 v'5 16
theorem ZnE:Fun Tryz.prog 82 [] [] false (fun d H'=> ∃x:Nat×Nat,d=pD x.1∧H'=tbW x.1 none x.2 16 [] zs16 []):=by
 refine Fun.perm (Φ:=fun d H'=> ∃x:Nat×Nat,d=pD x.1∧H'=(x.1,.cells 157 2 [.gs none 0,.gs (some (x.2,16)) 16])::[(x.2,.cells 3 16 (zs16.map iD))]) ?_ (fun d H' ⟨x,h1,h2⟩=>?_)
 rotate_left
 ·subst h2
  exact⟨_,List.Perm.swap ..,x,h1,rfl⟩
 refine Fun.of T [.tmp 0] Tryz.func82 rfl Tryz.ntmps82 Tryz.results82 rfl (by kernel_rfl) ?_
 repeat' first|refine vs T rfl fun K hK=>?_;(try simp (disch:=omega) only[go_sem,Nat.reduceBEq,Nat.reduceAdd,Nat.reduceMul,Nat.reduceLeDiff,Int.reduceToNat]);(first|refine hK _ _ ?_;clear hK K|intro bq hbq;(try simp only[HB]at hbq);refine hK _ _ ?_;clear hK K|refine⟨?_,fun bq hbq=>?_⟩;rotate_left;(try simp only[HB]at hbq);refine hK _ _ ?_;all_goals clear hK K)|refine st rfl ?_|refine nl ?_
 rotate_left
 ·omega
 rename_i bs _
 rw[ZdC 16]
 exact z'j T (z'm _) ⟨(bq,bs),rfl,rfl⟩
abbrev spW (gc gp gb:G) (C:List Cf) (P B:List Int) (H:Heap):Heap:=shp gc 43 4 (x'I C).flatten (shp gp 3 1 (P.map iD) (shp gb 3 1 (B.map iD) H))
abbrev seC (bt:Nat) (gc gp gb gl:G) (C:List Cf) (P B:List Int) (ne:Nat):List D:=[.gs gc C.length,.gs none 0,.gs none 0,.gs none 0,.gs gp P.length,.gs gb B.length,pD bt,.gs gl ne]
abbrev ZdZ (bx bt:Nat) (x:G×Nat×Nat×List Int) (y:G×G×G) (gl:G) (ne:Nat) (X:List ByteArray) (C:List Cf) (P B:List Int):Heap:=
 (bx,.cells 116 8 (seC bt y.1 y.2.1 y.2.2 gl C P B ne))::spW y.1 y.2.1 y.2.2 C P B (tbW bt x.1 x.2.1 x.2.2.1 X x.2.2.2 [])
abbrev fnS (X:List ByteArray) (s:ByteArray) (C:List Cf) (P B:List Int) (z:(G×Nat×Nat×List Int)×G×G×G):Prop:=tpS X s z.1∧gOk z.2.1 C.length∧gOk z.2.2.1 P.length∧gOk z.2.2.2 B.length
def fnA {α:Type} (X:List ByteArray) (s:ByteArray) (l:List α) (a:α):List α:=match w'u X s with|some _=>l|none=>l++[a]
theorem Zh4 (bx bt:Nat) (x:G×Nat×Nat×List Int) (y:G×G×G) (gl:G) (ne:Nat) (X:List ByteArray) (C:List Cf) (P B:List Int) (h:ZgK X x.2.2.2) (hgt:gOk x.1 X.length) (hgs:x.2.2.2.length≤x.2.2.1) (ht:X.length≤100000) (hz: ∀x,x∈X→x.size≤1000000)
  (hy:gOk y.1 C.length∧gOk y.2.1 P.length∧gOk y.2.2 B.length) (hC:C.length≤100000) (hP:P.length≤100000) (hB:B.length≤100000) (s:ByteArray) (hs:s.size≤1000000) (c:Cf) (a b:Int):
  Fun Tryz.prog 83 [pD bx,sD s,.agg (cfC c),iD a,iD b] (ZdZ bx bt x y gl ne X C P B) false
   (fun d H'=> ∃z:(G×Nat×Nat×List Int)×G×G×G,fnS X s (fnA X s C c) (fnA X s P a) (fnA X s B b) z∧d=iD (tpI X s:Nat)∧H'=ZdZ bx bt z.1 z.2 gl ne (tpX X s) (fnA X s C c) (fnA X s P a) (fnA X s B b)):=by
 have cp:=Zoc bt x.1 x.2.1 x.2.2.1 X x.2.2.2 h hgt hgs ht hz s hs
 obtain⟨gt,bs,cs,S⟩:=x
 obtain⟨gc,gp,gb⟩:=y
 dsimp only at*
 refine Fun.of T [.tmp 10] Tryz.func83 rfl Tryz.ntmps83 Tryz.results83 rfl (by kernel_rfl) ?_
 repeat' first|refine vb (t:=43) rfl rfl rfl rfl ?_|refine vs T rfl fun K hK=>?_;(try simp (disch:=omega) only[go_sem,Nat.reduceBEq,Nat.reduceAdd]);(first|refine hK _ _ ?_;clear hK K|skip)|refine st rfl ?_|refine nl ?_
 refine Op1.cally (Hr:=(bx,.cells 116 8 (seC bt gc gp gb gl C P B ne))::spW gc gp gb C P B []) rfl rfl cp rfl ?_ (fun q hq=>?_)
 ·exact y'e fun a=>by simp only[tbW,spW,y'l,z'2,y'a,y'c,z'T];omega
 refine hK _ _ ?_
 clear hK K
 refine vo ?_
 refine VCo.weak (Weak.perm (H':=(bx,.cells 116 8 (seC bt gc gp gb gl C P B ne))::spW gc gp gb C P B (tbW bt q.1 q.2.1 q.2.2.1 (tpX X s) q.2.2.2 [])) (y'e fun a=>by simp only[tbW,spW,y'l,z'2,y'a,y'c,z'T];omega)) ?_
 cases hi:w'u X s with
 |some i=>
  have e2:tpF X s=false:=by simp[tpF,hi]
  have e3:tpX X s=X:=by simp[tpX,hi]
  have eA: ∀{α:Type} (l:List α) (z:α),fnA X s l z=l:=fun l z=>by simp[fnA,hi]
  simp only[fnS,tpS,eA,e2,e3]at hq⊢
  repeat' first|refine vs T rfl fun K hK=>?_;(try simp (disch:=omega) only[go_sem,Nat.reduceBEq]);(refine hK _ _ ?_;clear hK K)|refine st rfl ?_|refine sc rfl ?_|refine nl ?_|refine ov ?_
  exact z'j T (z'm _) ⟨(q,gc,gp,gb),⟨hq,hy⟩,rfl,rfl⟩
 |none=>
  have e2:tpF X s=true:=by simp[tpF,hi]
  have e3:tpX X s=X++[s]:=by simp[tpX,hi]
  have eA: ∀{α:Type} (l:List α) (z:α),fnA X s l z=l++[z]:=fun l z=>by simp[fnA,hi]
  simp only[fnS,tpS,eA,e2,e3]at hq⊢
  repeat' first|refine VC.drawS (id:=3) (by kernel_rfl) ?_|refine vs T rfl fun K hK=>?_;(try simp (disch:=omega) only[go_sem,Nat.reduceBEq]);(refine hK _ _ ?_;clear hK K)|refine st rfl ?_|refine sc rfl ?_|refine nl ?_|refine ov ?_
  refine VCd.take rfl rfl rfl rfl rfl rfl (by kernel_rfl) (by kernel_rfl) (fun c s' h=>by simp only[Zgc]at h;unfold y'0 at h;exact h) ?_
  repeat' first|refine VCd.group T (s:=1) 8 9 rfl rfl (by kernel_rfl) (by kernel_rfl) (by kernel_rfl) ?_;(try simp only[y'w,y'o,Nat.reduceSub])|refine gn ?_|apply VCg.step T rfl rfl;focus((try simp (disch:=omega) only[go_sem,Nat.reduceBEq,Nat.reduceAdd,Nat.reduceMul,Nat.reduceLeDiff]);(exact rfl))
  refine VCd.oneL T rfl (by kernel_rfl) (by kernel_rfl) rfl rfl fun K hK=>?_
  simp (disch:=omega) only[go_sem,Nat.reduceBEq,Nat.reduceAdd,Nat.reduceMul,Nat.reduceSub,Nat.reduceLeDiff,Int.reduceToNat]
  refine⟨_,_,_,_,(by repeat (first|exact Sp.here|exact Sp.nil|apply Sp.cons|apply Sp.over)),?_,(by first|exact⟨rfl,rfl⟩|exact⟨rfl,rfl,rfl⟩),?_,fun g' hg'=>hK _ _ ?_⟩<;>clear hK K
  ·exact Zaa C
  ·omega
  repeat' first|refine VCd.tail (f:=9) (by kernel_rfl) ?_;(try simp only[y'w,y'o])|refine vs T rfl fun K hK=>?_;(try simp (disch:=omega) only[go_sem,Nat.reduceBEq,Nat.reduceAdd,Nat.reduceMul,Nat.reduceLeDiff]);(first|refine hK _ _ ?_;clear hK K|refine⟨_,_,_,_,(by repeat (first|exact Sp.here|apply Sp.cons|apply Sp.over)),?_,(by exact⟨rfl,rfl⟩),⟨by decide,?_⟩,fun g' hg'=>hK _ _ ?_⟩<;>clear hK K)|refine st rfl ?_|refine nl ?_|refine ov ?_
  ·rw[z'p,z'w]
  ·omega
  ·rw[z'p,z'w]
  ·omega
  rename_i g1 hg1 g2 hg2
  refine z'j T (z'm _) ⟨(q,g1,g2,g'),⟨hq,?_,?_,?_⟩,rfl,?_⟩
  ·rw[z'k];exact hg1
  ·rw[z'k];exact hg2
  ·rw[z'k];exact hg'
  ·simp only[ZdZ,spW,seC,ZeB,z'k,z'D,z'5,z'F,z'z,y't]
def okA (u:Un) (m r b:Int):Bool:=y'8 u (y'E u) m r&&(decide (1≤b)&&decide (b≤100000))&&y'Q m r u.md 0 []
abbrev sp0:D:= .agg [.sl false 4 [],z'S [],z'S [],z'S [],z'S [],z'S []]
theorem ZeF {H:Heap} {a:D}:Fz H (.tup [sp0,a]) (.tup [.agg [.gs none 0,.gs none 0,.gs none 0,.gs none 0,.gs none 0,.gs none 0],a]):=
 ⟨_,rfl,z'E ⟨_,rfl,z'E y'v (z'E y'v (z'E y'v (z'E y'v (z'E y'v (z'E y'v w't)))))⟩ (FzL.refl _ _)⟩
theorem ZoI (u:Un) (hu:OkU u) (m r b:Int) (hU:z'8 u=false):Pure Tryz.prog 38 [.agg (unC u),iD m,iD r,iD b] (.tup [sp0,iD 8]):=by
 have cs:=ZeK u hu
 have cs:Pure Tryz.prog 63 [.agg (unC u)] (.tup [.agg (cfC cf0),iD 8]):=by rwa [show v'U u=cf0 by simp[v'U,hU],show v'T u=8 by simp[v'T,hU]]at cs
 refine Fun.fz ?_
 refine Fun.of T [.cell 8 34,.tmp 9] Tryz.func38 rfl Tryz.ntmps38 Tryz.results38 rfl (by kernel_rfl) ?_
 repeat' first|refine vb (t:=25) rfl rfl rfl rfl ?_|refine vs T rfl fun K hK=>?_;(try simp (disch:=omega) only[go_sem,Nat.reduceBEq,Nat.reduceAdd,Nat.reduceLeDiff]);(first|refine hK _ _ ?_;clear hK K|intro bq hbq;(try simp only[HB]at hbq);refine hK _ _ ?_;clear hK K|refine Op1.callp rfl rfl (cs) rfl ?_;refine hK _ _ ?_;clear hK K)|refine st rfl ?_|refine sc rfl ?_|refine nl ?_
 rename_i b8 hb8
 have n1: ¬bq=b8:=hbq
 unfold ngQ
 exact y'T T rfl (by(try simp (disch:=omega) only[hget_ne,hget_eq]);rfl) rfl rfl rfl (z'a _) ZeF
theorem Zjx (u:Un) (hu:OkU u) (hc:OkC (y'E u)) (m r b:Int) (hU:z'8 u=true) (hA:okA u m r b=false):Pure Tryz.prog 38 [.agg (unC u),iD m,iD r,iD b] (.tup [sp0,iD 1]):=by
 have cs:=ZeK u hu
 have cs:Pure Tryz.prog 63 [.agg (unC u)] (.tup [.agg (cfC (y'E u)),iD 0]):=by rwa [show v'U u=y'E u by simp[v'U,hU],show v'T u=0 by simp[v'T,hU]]at cs
 have ce:=Zes u hu (y'E u) hc m r
 have cr:=Zer [] (by simp) m r u.md 0
 rw[ZeN]at cr
 unfold ZhU at ce
 refine Fun.fz ?_
 refine Fun.of T [.cell 8 34,.tmp 9] Tryz.func38 rfl Tryz.ntmps38 Tryz.results38 rfl (by kernel_rfl) ?_
 cases h1:y'8 u (y'E u) m r with
 |false=>
  rw[h1]at ce
  repeat' first|refine vb (t:=25) rfl rfl rfl rfl ?_|refine vs T rfl fun K hK=>?_;(try simp (disch:=omega) only[go_sem,Nat.reduceBEq,Nat.reduceAdd,Nat.reduceLeDiff]);(first|refine hK _ _ ?_;clear hK K|intro bq hbq;(try simp only[HB]at hbq);refine hK _ _ ?_;clear hK K|refine Op1.callp rfl rfl (cs) rfl ?_;refine hK _ _ ?_;clear hK K|refine Op1.callp rfl rfl (ce) rfl ?_;refine hK _ _ ?_;clear hK K)|refine st rfl ?_|refine sc rfl ?_|refine nl ?_|refine gs rfl rfl ?_
  rename_i b8 hb8
  have n1: ¬bq=b8:=hbq
  unfold ngQ
  exact y'T T rfl (by(try simp (disch:=omega) only[hget_ne,hget_eq]);rfl) rfl rfl rfl (z'a _) ZeF
 |true=>
  rw[h1]at ce
  by_cases h2:b<1
  ·have d2:decide (b<1)=true:=by simpa using h2
   repeat' first|refine vb (t:=25) rfl rfl rfl rfl ?_|refine vs T rfl fun K hK=>?_;(try simp (disch:=omega) only[go_sem,Nat.reduceBEq,Nat.reduceAdd,Nat.reduceLeDiff,d2]);(first|refine hK _ _ ?_;clear hK K|intro bq hbq;(try simp only[HB]at hbq);refine hK _ _ ?_;clear hK K|refine Op1.callp rfl rfl (cs) rfl ?_;refine hK _ _ ?_;clear hK K|refine Op1.callp rfl rfl (ce) rfl ?_;refine hK _ _ ?_;clear hK K)|refine st rfl ?_|refine sc rfl ?_|refine nl ?_|refine gs rfl rfl ?_
   rename_i b8 hb8
   have n1: ¬bq=b8:=hbq
   unfold ngQ
   exact y'T T rfl (by(try simp (disch:=omega) only[hget_ne,hget_eq]);rfl) rfl rfl rfl (z'a _) ZeF
  have d2:decide (b<1)=false:=by simpa using h2
  by_cases h3:b>100000
  ·have d3:decide (b>100000)=true:=by simpa using h3
   repeat' first|refine vb (t:=25) rfl rfl rfl rfl ?_|refine vs T rfl fun K hK=>?_;(try simp (disch:=omega) only[go_sem,Nat.reduceBEq,Nat.reduceAdd,Nat.reduceLeDiff,d2,d3]);(first|refine hK _ _ ?_;clear hK K|intro bq hbq;(try simp only[HB]at hbq);refine hK _ _ ?_;clear hK K|refine Op1.callp rfl rfl (cs) rfl ?_;refine hK _ _ ?_;clear hK K|refine Op1.callp rfl rfl (ce) rfl ?_;refine hK _ _ ?_;clear hK K)|refine st rfl ?_|refine sc rfl ?_|refine nl ?_|refine gs rfl rfl ?_
   rename_i b8 hb8
   have n1: ¬bq=b8:=hbq
   unfold ngQ
   exact y'T T rfl (by(try simp (disch:=omega) only[hget_ne,hget_eq]);rfl) rfl rfl rfl (z'a _) ZeF
  have d3:decide (b>100000)=false:=by simpa using h3
  have h4:y'Q m r u.md 0 []=false:=by
   cases h:y'Q m r u.md 0 []with
   |false=>rfl
   |true=>simp only[okA,h1,h,y'Z,w'S,Zah,decide_eq_false_iff_not]at hA;omega
  rw[h4]at cr
  repeat' first|refine vb (t:=25) rfl rfl rfl rfl ?_|refine vs T rfl fun K hK=>?_;(try simp (disch:=omega) only[go_sem,Nat.reduceBEq,Nat.reduceAdd,Nat.reduceLeDiff,d2,d3,z'q]);(first|refine hK _ _ ?_;clear hK K|intro bq hbq;(try simp only[HB]at hbq);refine hK _ _ ?_;clear hK K|refine Op1.callp rfl rfl (cs) rfl ?_;refine hK _ _ ?_;clear hK K|refine Op1.callp rfl rfl (ce) rfl ?_;refine hK _ _ ?_;clear hK K|refine Op1.callp rfl rfl (Fun.argsW (cr) (by repeat (first|exact w't|refine z'E ?_ ?_;focus(first|exact Fz.refl _ _|exact y'v)))) rfl ?_;refine hK _ _ ?_;clear hK K)|refine st rfl ?_|refine sc rfl ?_|refine nl ?_|refine gs rfl rfl ?_
  rename_i b8 hb8
  have n1: ¬bq=b8:=hbq
  unfold ngQ
  exact y'T T rfl (by(try simp (disch:=omega) only[hget_ne,hget_eq]);rfl) rfl rfl rfl (z'a _) ZeF
end Go.Proofs.YtomcmfbpmkklmaaGreat
