/- Bytes al a text: which texts are one. No condition. -/
import Derived.Test.YthlkpnjjkgmlkaaGreatBa
import Derived.Test.YthlkpnjjkgmlkaaGreatCe
import Derived.Test.YthlkpnjjkgmlkaaGreatZr
import Derived.Test.YthlkpnjjkgmlkaaGreatCc
import Derived.Test.YthlkpnjjkgmlkaaGreatYf
import Derived.Test.YthlkpnjjkgmlkaaGreatWb
import Derived.Test.YthlkpnjjkgmlkaaGreatYr
import Derived.Test.YthlkpnjjkgmlkaaGreatCh
import Derived.Test.YthlkpnjjkgmlkaaGreatSa
import Derived.Test.YthlkpnjjkgmlkaaGreatRi
namespace Go.Proofs.YthlkpnjjkgmlkaaGreat
set_option maxHeartbeats 16000000
set_option linter.unusedSimpArgs false
set_option linter.unusedVariables false
open Go Go.Proofs Go.Vc
theorem Zhe: ∀(l:List Int) (b:ByteArray),(l.foldl (fun s n=>s.push (UInt8.ofNat n.toNat)) b).data.toList=b.data.toList++l.map fun n=>UInt8.ofNat n.toNat
 |[],b=>by simp
 |x::l,b=>by
  rw[List.foldl_cons,Zhe l]
  simp[ByteArray.push]
theorem Zdz (l:List Int):(w'H l).data.toList=l.map fun n=>UInt8.ofNat n.toNat:=by
 unfold w'H
 rw[Zhe]
 exact z'H _
theorem ZlQ (l:List Int):(w'H l).size=l.length:=by
 have h:=congrArg List.length (Zdz l)
 rw[z'P,z'i]at h
 exact h
theorem ZaZ (n:Int):x'5 (byI n):=by
 unfold byI x'5
 have e:IntKind.u8.wrap n=n % 256:=rfl
 rw[e];omega
theorem Zjo: ∀{a b:List Int},(∀n,n∈a→x'5 n)→(∀n,n∈b→x'5 n)→(a.map fun n=>UInt8.ofNat n.toNat)=(b.map fun n=>UInt8.ofNat n.toNat)→a=b
 |[],[],_,_,_=>rfl
 |[],_::_,_,_,h=>by cases h
 |_::_,[],_,_,h=>by cases h
 |x::a,y::b,ha,hb,h=>by
  simp only[z'm,x'A]at h
  have hx:=ha x (z'n ..)
  have hy:=hb y (z'n ..)
  unfold x'5 at hx hy
  have e:=congrArg UInt8.toNat h.1
  simp only[UInt8.toNat_ofNat']at e
  have:x=y:=by omega
  rw[this,Zjo (fun n hn=>ha n (z'k _ hn)) (fun n hn=>hb n (z'k _ hn)) h.2]
theorem Znh {a b:List Int} (ha: ∀n,n∈a→x'5 n) (hb: ∀n,n∈b→x'5 n) (h:w'H a=w'H b):a=b:=
 Zjo ha hb (by rw[←Zdz, ←Zdz,h])
theorem Zno (b:List En): ∀n,n∈Zbe b→x'5 n:=by
 intro n hn
 unfold Zbe at hn
 obtain⟨e,_,he⟩:=List.mem_flatMap.1 hn
 simp only[z't,y'D,or_false]at he
 rcases he with rfl|rfl<;>exact ZaZ _
theorem ZpB (p:Int) (r:List Int) (b:List En): ∀n,n∈thB p r b→x'5 n:=by
 intro n hn
 simp only[thB,z't,z'W,z'p]at hn
 rcases hn with rfl|rfl|⟨x,_,rfl⟩|rfl|h
 ·exact ZaZ _
 ·exact ZaZ _
 ·exact ZaZ _
 ·exact ZaZ _
 ·exact Zno b n h
theorem ZhY: ∀(ps:List Int) (rs:List (List Int)) (bs:List (List En)), ∀n,n∈Zaf ps rs bs→x'5 n
 |p::ps,r::rs,b::bs,n,h=>by
  simp only[Zaf,z'W]at h
  rcases h with h|h
  ·exact ZpB _ _ _ n h
  ·exact ZhY ps rs bs n h
 |[],_,_,n,h=>by simp[Zaf]at h
 |_::_,[],_,n,h=>by simp[Zaf]at h
 |_::_,_::_,[],n,h=>by simp[Zaf]at h
theorem Zhk (c:Cf): ∀n,n∈ZbJ c→x'5 n:=by
 intro n h
 unfold ZbJ at h
 rcases z'W.1 h with h|h
 ·exact ZhY _ _ _ n h
 ·obtain⟨x,_,rfl⟩:=z'p.1 h
  exact ZaZ _
def x'Q (c:Cf):ByteArray:=w'H (ZbJ c)
theorem Zqz {rg:List Int} {lm:Nat} {c d:Cf} (hc:CfB rg lm c) (hd:CfB rg lm d) (h:x'Q c=x'Q d):c=d:=
 ZpZ hc hd (Znh (Zhk c) (Zhk d) h)
theorem ZkK {α β:Type} [DecidableEq α] [DecidableEq β] {f:α→β}: ∀{l:List α} {c:α},(∀d,d∈l→f d=f c→d=c)→Zar (l.map f) (f c)=Zar l c
 |[],c,_=>rfl
 |d::l,c,h=>by
  have ih:=ZkK (f:=f) (l:=l) (c:=c) fun d hd=>h d (z'k _ hd)
  unfold Zar at ih⊢
  rw[z'm,List.idxOf?_cons,List.idxOf?_cons,ih]
  by_cases e:d=c
  ·subst e;simp
  ·have: ¬f d=f c:=fun q=>e (h d (z'n ..) q)
   simp[e,this]
theorem Zse {rg:List Int} {lm:Nat} {l:List Cf} {c:Cf} (hl: ∀d,d∈l→CfB rg lm d) (hc:CfB rg lm c):Zar (l.map x'Q) (x'Q c)=Zar l c:=
 ZkK fun d hd h=>Zqz (hl d hd) hc h
set_option maxRecDepth 20000
attribute [local irreducible] x'c VCg VCw VCx
theorem Zph {β:Type} [DecidableEq β] {X:List β} {S:List Int} {s:β} {h:Nat} (hv: ∀v,v∈S→v=0∨ ∃i:Nat,i<X.length∧v=(i:Int)+1):v'R (X++[s]) S h s=v'R X S h s:=by
 have e:x'8 (X++[s]) S s=x'8 X S s:=by
  funext p
  cases hp:S[p]? with
  |none=>unfold x'8;rw[z'd,hp];rfl
  |some v=>
   rcases hv v (z'l hp)with rfl|⟨i,hi,rfl⟩
   ·rw[ZfD hp,ZfD hp]
   ·rw[Zg4 hp,Zg4 hp,y'l hi]
 unfold v'R x'2
 rw[e]
def tpI (X:List ByteArray) (s:ByteArray):Nat:=match Zar X s with|some i=>i|none=>X.length
def tpF (X:List ByteArray) (s:ByteArray):Bool:=(Zar X s).isNone
def tpX (X:List ByteArray) (s:ByteArray):List ByteArray:=match Zar X s with|some _=>X|none=>X++[s]
abbrev tpS (X:List ByteArray) (s:ByteArray) (x:G×Nat×Nat×List Int):Prop:=Zh3 (tpX X s) x.2.2.2∧x.2.2.2.length≤x.2.2.1∧gOk x.1 (tpX X s).length
theorem ZsX (bt:Nat) (gt:G) (bs cs:Nat) (X:List ByteArray) (S:List Int) (h:Zh3 X S) (hgt:gOk gt X.length) (hgs:S.length≤cs) (ht:X.length≤100000) (hz: ∀x,x∈X→x.size≤1000000) (s:ByteArray) (hs:s.size≤1000000):
  Fun Tryz.prog 260 [pD bt,sD s] (tbW bt gt bs cs X S []) false
   (fun d H'=> ∃x:G×Nat×Nat×List Int,tpS X s x∧d= .tup [iD (tpI X s:Nat),bD (tpF X s)]∧H'=tbW bt x.1 x.2.1 x.2.2.1 (tpX X s) x.2.2.2 []):=by
 obtain⟨k,hl,hk⟩:=h.pw
 have hb:16≤S.length∧S.length≤536870912:=by
  rw[hl]
  exact⟨y'X (n:=2) (by decide) hk.1,y'X (n:=2) (by decide) hk.2⟩
 have hld:=h.load
 have sl:=h.ti.sl hl ⟨hk.1,by omega⟩ (by omega) (by omega)
 have c0:=Zrf X S (by omega)
 have cf:=Zmg X S k sl s hs
 have z0:=Znq (bt:=bt) (gt:=gt) (bs:=bs) (cs:=cs) (X:=X) (S:=S) (H:=[]) (ds:=[]) hgt hgs
 have z1:=Znq (bt:=bt) (gt:=gt) (bs:=bs) (cs:=cs) (X:=X) (S:=S) (H:=[]) (ds:=[sD s]) hgt hgs
 have hpl:posT X S s<S.length:=x'Z _ (by omega)
 refine Fun.of T [.tmp 4,.tmp 5] Tryz.func260 rfl Tryz.ntmps260 Tryz.results260 rfl (by kernel_rfl) ?_
 refine VC.nodup fun hnd=>?_
 have n1: ¬bs=bt:=fun h=>by subst h;simp[Heap.blocks]at hnd
 cases hi:Zar X s with
 |some i=>
  have hx:=ZoU hi
  have hS:=Zp4 h.ti (z'g.1 hx).1 hx
  have hSm:(S.map iD)[posT X S s]?=some (iD ((i:Int)+1)):=by rw[z'J,hS];rfl
  have hd:decide ((i:Int)+1>0)=true:=decide_eq_true (by omega)
  have hil:=(z'g.1 hx).1
  have hw:IntKind.i64.wrap ((i:Int)+1-1)=(i:Int):=by
   rw[w64 (by omega)]
   omega
  have e1:tpI X s=i:=by simp[tpI,hi]
  have e2:tpF X s=false:=by simp[tpF,hi]
  have e3:tpX X s=X:=by simp[tpX,hi]
  simp only[tpS,e1,e2,e3]
  repeat' first|refine vs T rfl fun K hK=>?_;(try simp (disch:=omega) only[go_sem,Nat.reduceBEq,hS,hd,hw,z'K,z'E]);(first|refine hK _ _ ?_;clear hK K|refine⟨?_,hK _ _ ?_⟩<;>clear hK K;focus(try omega)|refine Op1.lend rfl rfl (c0) (z0) (.inr rfl) ?_;refine hK _ _ ?_;clear hK K|refine Op1.lend rfl rfl (cf) (z1) (.inr rfl) ?_;refine hK _ _ ?_;clear hK K)|refine st rfl ?_|refine sc rfl ?_|refine nl ?_
  exact w'd T (z'w _) ⟨(gt,bs,cs,S),⟨h,hgs,hgt⟩,rfl,rfl⟩
 |none=>
  have hx:=ZoT hi
  have hno: ∀i:Nat,i<X.length→X[i]?≠some s:=fun i _ hi'=>hx (z'l hi')
  have hS:=(Zmf h.ti sl.free hno).1
  have hd:decide ((0:Int)>0)=false:=by decide
  have e1:tpI X s=X.length:=by simp[tpI,hi]
  have e2:tpF X s=true:=by simp[tpF,hi]
  have e3:tpX X s=X++[s]:=by simp[tpX,hi]
  have hw:IntKind.i64.wrap (((X.length+1:Nat):Int)-1)=(X.length:Int):=by rw[w64 (by omega)];omega
  have J:=(h.ti.more hx).put (s:=s) (by simp) sl.free
  rw[Zph sl.val]at J
  have hJl:(X++[s]).length=X.length+1:=by simp
  have cg:=fun gt' (hg:gOk gt' (X.length+1))=>Zsc bt gt' bs cs (X++[s]) (S.set (posT X S s) ((X.length:Int)+1)) k (by rw[hJl];exact hg) (by rw[y't];exact hgs) (by rw[hJl];exact J) (by rw[y't];exact hl) hk (by rw[hJl,y't];omega)
   (by rw[hJl,y't];have:=h.cap;omega) (by rw[hJl];omega) (fun x hm=>by rcases z'W.1 hm with hm|hm;exact hz x hm;obtain rfl:=z'V.1 hm;exact hs)
  simp only[tpS,e1,e2,e3]
  repeat' first|refine dr (id:=7) T 10 (by kernel_rfl) ?_|refine gn ?_|apply VCg.step T rfl rfl;focus((try simp (disch:=omega) only[go_sem,Nat.reduceBEq]);(exact rfl))|refine vs T rfl fun K hK=>?_;(try simp (disch:=omega) only[go_sem,Nat.reduceBEq,Nat.reduceAdd,Nat.reduceLeDiff,hS,hd,z'K,z'i,z'E]);(first|refine hK _ _ ?_;clear hK K|refine⟨_,_,_,_,(by repeat (first|exact Sp.here|apply Sp.cons)),?_,(by exact⟨rfl,rfl⟩),⟨by decide,?_⟩,fun g' hg'=>hK _ _ ?_⟩<;>clear hK K|refine⟨?_,hK _ _ ?_⟩<;>clear hK K;focus(try omega)|refine Op1.lend rfl rfl (c0) (z0) (.inr rfl) ?_;refine hK _ _ ?_;clear hK K|refine Op1.lend rfl rfl (cf) (z1) (.inr rfl) ?_;refine hK _ _ ?_;clear hK K|skip)|refine st rfl ?_|refine sc rfl ?_|refine nl ?_
  all_goals first|omega|(rw[z'i];done)|skip
  have cg2:=cg g' hg'
  simp only[tbW,z'v,z'm,z'8,x'd,y't,hJl,z'K]at cg2
  rw[show(X.length:Int)+1=((X.length+1:Nat):Int) by omega]at cg2
  refine Op1.cally (Hr:=[]) rfl rfl cg2 rfl (by rw[z's]) (fun q hq=>?_)
  refine hK _ _ ?_
  clear hK K
  refine vo ?_
  refine VCo.nodup fun hnd2=>?_
  have n5: ¬q.1=bt:=fun h=>by simp[Heap.blocks,h]at hnd2
  repeat' first|refine vs T rfl fun K hK=>?_;(try simp (disch:=omega) only[go_sem,Nat.reduceBEq,hw]);(refine hK _ _ ?_;clear hK K)|refine st rfl ?_|refine nl ?_|refine ov ?_
  refine w'd T (z'w _) ⟨(g',q.1,q.2.1,q.2.2),⟨hq.1,hq.2,by rw[hJl];exact hg'⟩,rfl,?_⟩
  simp only[tbW,z'v,z'm,z'8,hJl,z'K,z's]
abbrev zs16:List Int:=List.replicate 16 0
theorem ZsU:Zh3 [] zs16:=by
 refine⟨?_,⟨4,by decide,by decide⟩,by decide,by decide⟩
 exact TI.none hm0 x'Y 16
theorem ZsW:Fun Tryz.prog 215 [] [] false (fun d H'=> ∃x:Nat×Nat,d=pD x.1∧H'=tbW x.1 none x.2 16 [] zs16 []):=by
 refine Fun.perm (Φ:=fun d H'=> ∃x:Nat×Nat,d=pD x.1∧H'=(x.1,.cells 288 2 [.gs none 0,.gs (some (x.2,16)) 16])::[(x.2,.cells 3 16 (zs16.map iD))]) ?_ (fun d H' ⟨x,h1,h2⟩=>?_)
 rotate_left
 ·subst h2
  exact⟨_,List.Perm.swap ..,x,h1,rfl⟩
 refine Fun.of T [.tmp 0] Tryz.func215 rfl Tryz.ntmps215 Tryz.results215 rfl (by kernel_rfl) ?_
 repeat' first|refine vs T rfl fun K hK=>?_;(try simp (disch:=omega) only[go_sem,Nat.reduceBEq,Nat.reduceAdd,Nat.reduceMul,Nat.reduceLeDiff,Int.reduceToNat]);(first|refine hK _ _ ?_;clear hK K|intro bq hbq;(try simp only[HB]at hbq);refine hK _ _ ?_;clear hK K|refine⟨?_,fun bq hbq=>?_⟩;rotate_left;(try simp only[HB]at hbq);refine hK _ _ ?_;all_goals clear hK K)|refine st rfl ?_|refine nl ?_
 rotate_left
 ·omega
 rename_i bs _
 rw[Zd7 16]
 exact z'A T (z'w _) ⟨(bq,bs),rfl,rfl⟩
abbrev spW (gc gp gb:G) (C:List Cf) (P B:List Int) (H:Heap):Heap:=shp gc 69 4 (x'J C).flatten (shp gp 3 1 (P.map iD) (shp gb 3 1 (B.map iD) H))
abbrev seC (bt:Nat) (gc gp gb gl:G) (C:List Cf) (P B:List Int) (ne:Nat):List D:=[.gs gc C.length,.gs none 0,.gs none 0,.gs none 0,.gs gp P.length,.gs gb B.length,pD bt,.gs gl ne]
abbrev ZeO (bx bt:Nat) (x:G×Nat×Nat×List Int) (y:G×G×G) (gl:G) (ne:Nat) (X:List ByteArray) (C:List Cf) (P B:List Int):Heap:=
 (bx,.cells 253 8 (seC bt y.1 y.2.1 y.2.2 gl C P B ne))::spW y.1 y.2.1 y.2.2 C P B (tbW bt x.1 x.2.1 x.2.2.1 X x.2.2.2 [])
abbrev fnS (X:List ByteArray) (s:ByteArray) (C:List Cf) (P B:List Int) (z:(G×Nat×Nat×List Int)×G×G×G):Prop:=tpS X s z.1∧gOk z.2.1 C.length∧gOk z.2.2.1 P.length∧gOk z.2.2.2 B.length
def fnA {α:Type} (X:List ByteArray) (s:ByteArray) (l:List α) (a:α):List α:=match Zar X s with|some _=>l|none=>l++[a]
theorem Zkd (bx bt:Nat) (x:G×Nat×Nat×List Int) (y:G×G×G) (gl:G) (ne:Nat) (X:List ByteArray) (C:List Cf) (P B:List Int) (h:Zh3 X x.2.2.2) (hgt:gOk x.1 X.length) (hgs:x.2.2.2.length≤x.2.2.1) (ht:X.length≤100000) (hz: ∀x,x∈X→x.size≤1000000)
  (hy:gOk y.1 C.length∧gOk y.2.1 P.length∧gOk y.2.2 B.length) (hC:C.length≤100000) (hP:P.length≤100000) (hB:B.length≤100000) (s:ByteArray) (hs:s.size≤1000000) (c:Cf) (a b:Int):
  Fun Tryz.prog 216 [pD bx,sD s,.agg (cfC c),iD a,iD b] (ZeO bx bt x y gl ne X C P B) false
   (fun d H'=> ∃z:(G×Nat×Nat×List Int)×G×G×G,fnS X s (fnA X s C c) (fnA X s P a) (fnA X s B b) z∧d=iD (tpI X s:Nat)∧H'=ZeO bx bt z.1 z.2 gl ne (tpX X s) (fnA X s C c) (fnA X s P a) (fnA X s B b)):=by
 have cp:=ZsX bt x.1 x.2.1 x.2.2.1 X x.2.2.2 h hgt hgs ht hz s hs
 obtain⟨gt,bs,cs,S⟩:=x
 obtain⟨gc,gp,gb⟩:=y
 dsimp only at*
 refine Fun.of T [.tmp 10] Tryz.func216 rfl Tryz.ntmps216 Tryz.results216 rfl (by kernel_rfl) ?_
 repeat' first|refine vb (t:=69) rfl rfl rfl rfl ?_|refine vs T rfl fun K hK=>?_;(try simp (disch:=omega) only[go_sem,Nat.reduceBEq,Nat.reduceAdd]);(first|refine hK _ _ ?_;clear hK K|skip)|refine st rfl ?_|refine nl ?_
 refine Op1.cally (Hr:=(bx,.cells 253 8 (seC bt gc gp gb gl C P B ne))::spW gc gp gb C P B []) rfl rfl cp rfl ?_ (fun q hq=>?_)
 ·exact y'6 fun a=>by simp only[tbW,spW,x'q,y'I,y'N,y'V,z'N];omega
 refine hK _ _ ?_
 clear hK K
 refine vo ?_
 refine VCo.weak (Weak.perm (H':=(bx,.cells 253 8 (seC bt gc gp gb gl C P B ne))::spW gc gp gb C P B (tbW bt q.1 q.2.1 q.2.2.1 (tpX X s) q.2.2.2 [])) (y'6 fun a=>by simp only[tbW,spW,x'q,y'I,y'N,y'V,z'N];omega)) ?_
 cases hi:Zar X s with
 |some i=>
  have e2:tpF X s=false:=by simp[tpF,hi]
  have e3:tpX X s=X:=by simp[tpX,hi]
  have eA: ∀{α:Type} (l:List α) (z:α),fnA X s l z=l:=fun l z=>by simp[fnA,hi]
  simp only[fnS,tpS,eA,e2,e3]at hq⊢
  repeat' first|refine vs T rfl fun K hK=>?_;(try simp (disch:=omega) only[go_sem,Nat.reduceBEq]);(refine hK _ _ ?_;clear hK K)|refine st rfl ?_|refine sc rfl ?_|refine nl ?_|refine ov ?_
  exact z'A T (z'w _) ⟨(q,gc,gp,gb),⟨hq,hy⟩,rfl,rfl⟩
 |none=>
  have e2:tpF X s=true:=by simp[tpF,hi]
  have e3:tpX X s=X++[s]:=by simp[tpX,hi]
  have eA: ∀{α:Type} (l:List α) (z:α),fnA X s l z=l++[z]:=fun l z=>by simp[fnA,hi]
  simp only[fnS,tpS,eA,e2,e3]at hq⊢
  repeat' first|refine VC.drawS (id:=3) (by kernel_rfl) ?_|refine vs T rfl fun K hK=>?_;(try simp (disch:=omega) only[go_sem,Nat.reduceBEq]);(refine hK _ _ ?_;clear hK K)|refine st rfl ?_|refine sc rfl ?_|refine nl ?_|refine ov ?_
  refine VCd.take rfl rfl rfl rfl rfl rfl (by kernel_rfl) (by kernel_rfl) (fun c s' h=>by simp only[ZhX]at h;unfold x'c at h;exact h) ?_
  repeat' first|refine VCd.group T (s:=1) 8 9 rfl rfl (by kernel_rfl) (by kernel_rfl) (by kernel_rfl) ?_;(try simp only[y'j,y'a,Nat.reduceSub])|refine gn ?_|apply VCg.step T rfl rfl;focus((try simp (disch:=omega) only[go_sem,Nat.reduceBEq,Nat.reduceAdd,Nat.reduceMul,Nat.reduceLeDiff]);(exact rfl))
  refine VCd.oneL T rfl (by kernel_rfl) (by kernel_rfl) rfl rfl fun K hK=>?_
  simp (disch:=omega) only[go_sem,Nat.reduceBEq,Nat.reduceAdd,Nat.reduceMul,Nat.reduceSub,Nat.reduceLeDiff,Int.reduceToNat]
  refine⟨_,_,_,_,(by repeat (first|exact Sp.here|exact Sp.nil|apply Sp.cons|apply Sp.over)),?_,(by first|exact⟨rfl,rfl⟩|exact⟨rfl,rfl,rfl⟩),?_,fun g' hg'=>hK _ _ ?_⟩<;>clear hK K
  ·exact Zgi C
  ·omega
  repeat' first|refine VCd.tail (f:=9) (by kernel_rfl) ?_;(try simp only[y'j,y'a])|refine vs T rfl fun K hK=>?_;(try simp (disch:=omega) only[go_sem,Nat.reduceBEq,Nat.reduceAdd,Nat.reduceMul,Nat.reduceLeDiff]);(first|refine hK _ _ ?_;clear hK K|refine⟨_,_,_,_,(by repeat (first|exact Sp.here|apply Sp.cons|apply Sp.over)),?_,(by exact⟨rfl,rfl⟩),⟨by decide,?_⟩,fun g' hg'=>hK _ _ ?_⟩<;>clear hK K)|refine st rfl ?_|refine nl ?_|refine ov ?_
  ·rw[z'i,z'K]
  ·omega
  ·rw[z'i,z'K]
  ·omega
  rename_i g1 hg1 g2 hg2
  refine z'A T (z'w _) ⟨(q,g1,g2,g'),⟨hq,?_,?_,?_⟩,rfl,?_⟩
  ·rw[z'h];exact hg1
  ·rw[z'h];exact hg2
  ·rw[z'h];exact hg'
  ·simp only[ZeO,spW,seC,ZjX,z'h,z'u,z'2,z'v,z'm,z'8]
def okA (u:Un) (m r b:Int):Bool:=x'i u (x'n u) m r&&(decide (1≤b)&&decide (b≤100000))&&x'm m r u.md 0 []
theorem ZgM {α:Type} {l:List α} {t:Nat} {x d:α} (h:l[t]?=some x):l.getD t d=x:=by rw[z'd,h];rfl
theorem Zls {u:Un} {c:Cf} {m r:Int} (h:Rt u c m r) {t:Nat} (ht:t<u.regs.length):
  (0≤c.pc.getD t 0∧c.pc.getD t 0<1000)∧((c.regs.getD t []).length:Int)=u.regs.getD t 0∧(c.regs.getD t []).length≤6∧(∀n,n∈c.regs.getD t []→x'5 n)∧(c.bufs.getD t []).length≤60∧ ∀e,e∈c.bufs.getD t []→x'5 e.1∧x'5 e.2:=by
 obtain⟨hU,_,_,hth,hg⟩:=x'E.1 h.rt
 obtain⟨⟨a1,a2⟩,⟨a3,a4⟩,a5⟩:=w'G.1 (hth t ht)
 have hU':=hU
 simp only[y'G,w'Y,z'c,decide_eq_true_eq,z'o]at hU'
 obtain⟨⟨⟨⟨⟨⟨⟨b1,b2⟩,b3⟩,b4⟩,b5⟩,b6⟩,b7⟩,b8⟩:=hU'
 have h8:=b8 t (z'Q.2 ht)
 simp only[Zcr,z'c,decide_eq_true_eq]at h8
 obtain⟨g1,g2⟩:=w'r.1 a5
 simp only[ZaH,z'c,decide_eq_true_eq]at g1
 have g3:=g2.len (by omega) (by omega) (by omega)
 refine⟨⟨a1,by omega⟩,a3,by omega,fun n hn=>?_,g3,fun e he=>?_⟩
 ·have:=y'1.1 (z'o.1 a4 n hn)
  exact⟨by omega,by omega⟩
 ·have:=g2.el e he
  exact⟨⟨by omega,by omega⟩,by omega,by omega⟩
theorem Zpt {u:Un} {c:Cf} {m r:Int} (h:Rt u c m r):CfB u.regs u.init.length c:=by
 obtain⟨l1,l2,l3,l4,hm⟩:=h.lens
 obtain⟨hU,_⟩:=x'E.1 h.rt
 simp only[y'G,w'Y,z'c,decide_eq_true_eq,z'o]at hU
 refine⟨l1,l2,l3,l4,fun n hn=>?_,fun t p rg b hp hr hb=>?_⟩
 ·have:=y'1.1 (z'o.1 hm n hn)
  exact⟨by omega,by omega⟩
 ·have ht:t<u.regs.length:=by have:=(z'g.1 hp).1;omega
  obtain⟨q1,q2,q3,q4,q5,q6⟩:=Zls h ht
  rw[ZgM hp]at q1
  rw[ZgM hr]at q2 q4
  rw[ZgM hb]at q5 q6
  refine⟨⟨⟨q1.1,by omega⟩,q4,by omega,q6⟩,?_⟩
  rw[q2,z'd,z'b ht]
  rfl
theorem ZgU {u:Un} {c:Cf} {m r:Int} (h:Rt u c m r):(x'Q c).size≤10000:=by
 obtain⟨l1,l2,l3,l4,_⟩:=h.lens
 have hC:=h.okC
 obtain⟨hU,_⟩:=x'E.1 h.rt
 simp only[y'G,w'Y,z'c,decide_eq_true_eq,z'o]at hU
 have e1:=ZcE (l:=c.regs) (b:=6) fun x hx=>by
  obtain⟨t,ht,rfl⟩:=List.getElem_of_mem hx
  have:=(Zls h (t:=t) (by omega)).2.2.1
  rwa [z'd,z'b ht]at this
 have e2:=ZcE (l:=c.bufs) (b:=60) fun x hx=>by
  obtain⟨t,ht,rfl⟩:=List.getElem_of_mem hx
  have:=(Zls h (t:=t) (by omega)).2.2.2.2.1
  rwa [z'd,z'b ht]at this
 unfold x'Q
 rw[ZlQ,Zj6 (by omega) (by omega)]
 unfold x'C
 omega
theorem Zou {α:Type} [DecidableEq α] {mv:α→List Int} {ac:α→Int→α} {cf:List α}: ∀{n:Nat} {e:Nat×Int×Nat},e∈w'7 mv ac cf n→e.1<n:=by
 intro n e he
 unfold w'7 at he
 obtain⟨j,hj,he⟩:=List.mem_flatMap.1 he
 have:=z'Q.1 hj
 split at he
 ·obtain⟨a,_,rfl⟩:=z'p.1 he
  exact this
 ·cases he
theorem ZeV {α:Type} [DecidableEq α] {mv:α→List Int} {ac:α→Int→α} {cf:List α}: ∀n:Nat,(w'7 mv ac cf n).Pairwise fun a b=>a.1≤b.1
 |0=>List.Pairwise.nil
 |n+1=>by
  have e:w'7 mv ac cf (n+1)=w'7 mv ac cf n++(match cf[n]? with|some c=>(mv c).map fun a=>(n,a,cf.idxOf (ac c a))|none=>[]):=by
   unfold w'7
   rw[y'h,List.flatMap_append,List.flatMap_cons,List.flatMap_nil,z's]
   rfl
  have row: ∀e,e∈(match cf[n]? with|some c=>(mv c).map fun a=>(n,a,cf.idxOf (ac c a))|none=>[])→e.1=n:=fun e he=>by
   split at he
   ·obtain⟨a,_,rfl⟩:=z'p.1 he;rfl
   ·cases he
  rw[e]
  refine List.pairwise_append.2 ⟨ZeV n,?_,fun a ha b hb=>?_⟩
  ·exact List.Pairwise.imp_of_mem (fun ha hb _=>by rw[row _ ha,row _ hb];exact z'f _) (List.pairwise_of_forall (l:=(match cf[n]? with|some c=>(mv c).map fun a=>(n,a,cf.idxOf (ac c a))|none=>[])) (R:=fun _ _=>True) fun _ _=>trivial)
  ·have:=Zou ha
   rw[row b hb];omega
theorem Znm {u:Un} {m r b:Int} {S:Spc Cf} (h:Zdx u m r b=some S) (hb:1≤b):Zau (edS S):=by
 obtain⟨_,hE,_⟩:=ZjP h (by omega)
 unfold Zau edS
 rw[hE]
 refine List.pairwise_map.2 ((ZeV _).imp fun h=>?_)
 show((_:Nat):Int)≤((_:Nat):Int)
 exact Int.ofNat_le.2 h
end Go.Proofs.YthlkpnjjkgmlkaaGreat
