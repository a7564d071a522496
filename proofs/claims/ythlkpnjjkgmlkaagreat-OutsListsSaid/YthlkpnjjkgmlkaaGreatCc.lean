/- Contracts: where a path leads. No condition. -/
import Derived.Test.YthlkpnjjkgmlkaaGreatSa
import Derived.Test.YthlkpnjjkgmlkaaGreatWa
import Derived.Test.YthlkpnjjkgmlkaaGreatBb
import Derived.Test.YthlkpnjjkgmlkaaGreatYla
import Derived.Test.YthlkpnjjkgmlkaaGreatRi
import Derived.Test.YthlkpnjjkgmlkaaGreatDb
import Derived.Test.YthlkpnjjkgmlkaaGreatZr
namespace Go.Proofs.YthlkpnjjkgmlkaaGreat
set_option maxHeartbeats 16000000
set_option linter.unusedSimpArgs false
set_option linter.unusedVariables false
set_option maxRecDepth 20000
open Go Go.Proofs Go.Vc
section
variable {u : Un} {c : Cf} {m r : Int} (b : Nat)
end
end Go.Proofs.YthlkpnjjkgmlkaaGreat
/- Calls through method values. No condition. -/
namespace Go.Vc
set_option maxHeartbeats 16000000
set_option linter.unusedSimpArgs false
set_option linter.unusedVariables false
open Go
end Go.Vc
/- Contracts: what is seen on a circle. No condition. -/
namespace Go.Proofs.YthlkpnjjkgmlkaaGreat
set_option maxHeartbeats 16000000
set_option linter.unusedSimpArgs false
set_option linter.unusedVariables false
set_option maxRecDepth 20000
open Go Go.Proofs Go.Vc
attribute [local irreducible] x'c VCg VCw VCx
abbrev tbW (bt:Nat) (gt:G) (bs cs:Nat) (X:List ByteArray) (S:List Int) (H:Heap):Heap:=
 (bs,.cells 3 (cs*1) (S.map iD))::(bt,.cells 288 2 [.gs gt X.length,.gs (some (bs,cs)) S.length])::shp gt 9 1 (X.map sD) H
theorem Zrc (X:List ByteArray):(tRs X).flatten=X.map sD:=by
 induction X with
 |nil=>rfl
 |cons x X ih=>simp only[tRs,z'm,z'R]at ih⊢;rw[ih];rfl
theorem ZsT (X:List ByteArray): ∀r,r∈tRs X→r.length=1:=fun r hr=>by obtain⟨x,_,rfl⟩:=z'p.1 hr;rfl
theorem Znq {bt:Nat} {gt:G} {bs cs:Nat} {X:List ByteArray} {S:List Int} {H:Heap} {ds:List D} (hgt:gOk gt X.length) (hgs:S.length≤cs):
  FzL (tbW bt gt bs cs X S H) (.pt [ZlE X,y'c S]::ds) (pD bt::ds):=by
 have z1:Fz (tbW bt gt bs cs X S H) (ZlE X) (.gs gt X.length):=Zdd (e:=9) (l:=X.map sD) (ZiI X).symm hgt (fun b cap hb=>z'k _ (z'k _ (by subst hb;exact v'g))) (by rw[←Zrc];exact FzR.refl _ _ (ZsT X))
 have z2:Fz (tbW bt gt bs cs X S H) (y'c S) (.gs (some (bs,cs)) S.length):=v'l hgs (fun b cap hb=>by cases hb;exact z'n ..)
 exact z'4 (.inr ⟨bt,0,_,_,_,rfl,z'k _ (z'n ..),⟨_,_,rfl,z1,_,_,rfl,z2,trivial⟩⟩) (FzL.refl _ _)
theorem Zd7 (n:Nat):v'r n [.int .i64 0]=(List.replicate n (0:Int)).map iD:=by
 show(List.replicate n [iD 0]).flatten=_
 rw[w'Z]
 induction n with
 |zero=>rfl
 |succ n ih=>rw[y'o,z'R,ih,y'o];rfl
theorem TI.sl {X:List ByteArray} {S:List Int} {n k:Nat} (I:TI hm0 X S n) (hl:S.length=2^k) (hk:4≤k∧k≤40) (hn:n<S.length) (ht:X.length≤1000000):Zs6 X S k:=
 ⟨hl,hk,by have:=I.free;omega,fun v hv=>by
  obtain⟨p,hp,rfl⟩:=List.mem_iff_getElem.1 hv
  rcases I.val p _ (z'b hp)with h|⟨i,hi,h⟩
  ·exact .inl h
  ·exact .inr ⟨i,by have:=I.nT;omega,h⟩,ht⟩
structure Zh3 (X:List ByteArray) (S:List Int):Prop where
 ti:TI hm0 X S X.length
 pw: ∃k,S.length=2^k∧4≤k∧k≤29
 cap:S.length≤16+4*X.length
 load:2*X.length≤S.length
theorem Zuj {k n:Nat} (h:2^k≤n) (hn:n<1048576):k≤19:=by
 rcases z'j k 20 with h'|h'
 ·omega
 ·have:2^20≤2^k:=y'X (by decide) h'
  omega
abbrev grS (X:List ByteArray) (x:Nat×Nat×List Int):Prop:=Zh3 X x.2.2∧x.2.2.length≤x.2.1
theorem Zsc (bt:Nat) (gt:G) (bs cs:Nat) (X:List ByteArray) (S:List Int) (k:Nat) (hgt:gOk gt X.length) (hgs:S.length≤cs) (I:TI hm0 X S X.length) (hl:S.length=2^k) (hk:4≤k∧k≤29) (hX:X.length<S.length) (hcap:S.length≤16+4*X.length) (ht:X.length≤200000)
  (hz: ∀x,x∈X→x.size≤1000000):Fun Tryz.prog 283 [pD bt] (tbW bt gt bs cs X S []) false (fun d H'=> ∃x:Nat×Nat×List Int,grS X x∧d= .tup []∧H'=tbW bt gt x.1 x.2.1 X x.2.2 []):=by
 have hb:16≤S.length∧S.length≤536870912:=by
  rw[hl]
  exact⟨y'X (n:=2) (by decide) hk.1,y'X (n:=2) (by decide) hk.2⟩
 have hw0:IntKind.i64.wrap (2*(X.length:Int))=((2*X.length:Nat):Int):=by rw[w64 (by omega)];omega
 refine Fun.of T [] Tryz.func283 rfl Tryz.ntmps283 Tryz.results283 rfl (by kernel_rfl) ?_
 refine VC.nodup fun hnd=>?_
 have n1: ¬bs=bt:=fun h=>by subst h;simp[Heap.blocks]at hnd
 repeat' first|refine vs T rfl fun K hK=>?_;(try simp (disch:=omega) only[go_sem,Nat.reduceBEq]);(refine hK _ _ ?_;clear hK K)|refine st rfl ?_|refine nl ?_
 rcases z'j S.length (2*X.length)with hbig|hsm
 case inr=>
  refine VC.loop Unit (fun _=>⟨y'd [(0,pD bt),(2,iD (S.length:Nat))],tbW bt gt bs cs X S []⟩) (fun _=>0) () ?_ ?_
  ·refine Weak.sub ?_
   simp[sub,upd]
  intro _
  have hd:decide (((2*X.length:Nat):Int)>(S.length:Int))=false:=decide_eq_false (by omega)
  repeat' first|refine vs T rfl fun K hK=>?_;(try simp (disch:=omega) only[go_sem,Nat.reduceBEq,hd,hw0]);(refine hK _ _ ?_;clear hK K)|refine st rfl ?_|refine sc rfl ?_|refine nl ?_
  exact v'9 T rfl (z'w _) ⟨(bs,cs,S),⟨⟨I,⟨k,hl,hk⟩,hcap,hsm⟩,hgs⟩,rfl,rfl⟩
 case inl=>
  refine VC.loop {j:Nat//j≤1} (fun j=>⟨y'd [(0,pD bt),(2,iD (S.length*(j.1+1):Nat))],tbW bt gt bs cs X S []⟩) (fun j=>1-j.1) ⟨0,by omega⟩ ?_ ?_
  ·refine Weak.sub ?_
   simp[sub,upd]
  rintro⟨j,hj⟩
  dsimp only
  rcases x'D j with rfl|h1
  ·have hd:decide (((2*X.length:Nat):Int)>((S.length*(0+1):Nat):Int))=true:=decide_eq_true (by omega)
   have hw1:IntKind.i64.wrap (((S.length*(0+1):Nat):Int)*2)=((S.length*(1+1):Nat):Int):=by rw[w64 (by omega)];omega
   repeat' first|refine vs T rfl fun K hK=>?_;(try simp (disch:=omega) only[go_sem,Nat.reduceBEq,Nat.reduceAdd,hd,hw0,hw1]);(refine hK _ _ ?_;clear hK K)|refine st rfl ?_|refine sc rfl ?_|refine nl ?_
   refine⟨⟨1,by omega⟩,Weak.sub ?_,by dsimp only;omega⟩
   simp[sub,upd]
  ·obtain rfl:j=1:=by omega
   have hd:decide (((2*X.length:Nat):Int)>((S.length*(1+1):Nat):Int))=false:=decide_eq_false (by omega)
   have he:(((S.length*(1+1):Nat):Int) == (S.length:Int))=false:=by rw[beq_eq_false_iff_ne];omega
   have hn2:S.length*(1+1)=2^(k+1):=by rw[hl,Nat.pow_succ]
   generalize hn:S.length*(1+1)=n at*
   repeat' first|refine vs T rfl fun K hK=>?_;(try simp (disch:=omega) only[go_sem,Nat.reduceBEq,Nat.reduceAdd,Nat.reduceLeDiff,hd,hw0,he]);(first|refine hK _ _ ?_;clear hK K|refine⟨?_,fun bq hbq=>?_⟩;rotate_left;(try simp only[HB]at hbq);refine hK _ _ ?_;all_goals clear hK K)|refine st rfl ?_|refine sc rfl ?_|refine nl ?_
   rotate_left
   ·omega
   have n2: ¬bq=bt:=fun h=>by subst h;simp[Heap.blocks]at hbq
   refine VC.loop {p:Nat×List Int//p.1≤X.length∧p.2.length=n∧TI hm0 X p.2 p.1} (fun p=>⟨y'd [(0,pD bt),(35,.gs gt X.length),(36,iD (X.length:Nat)),(37,iD (p.1.1:Nat))],(bq,.cells 3 (n*1) (p.1.2.map iD))::(bt,.cells 288 2 [.gs gt X.length,.gs (some (bq,n)) n])::shp gt 9 1 (X.map sD) []⟩) (fun p=>X.length-p.1.1) ⟨(0,List.replicate n 0),y'f _,y'i,TI.none hm0 I.nd n⟩ ?_ ?_
   ·rw[Zd7]
    refine Weak.subH (List.Sublist.cons_cons _ (z'0 _ _)) ?_
    simp[sub,upd]
   rintro⟨⟨i,Si⟩,hi,hSl,J⟩
   dsimp only at hi hSl J⊢
   rcases z'j i X.length with hlt|hge
   ·have hdi:decide ((i:Int)<(X.length:Int))=true:=by simp;omega
    have hwi:IntKind.i64.wrap ((i:Int)+1)=((i+1:Nat):Int):=by rw[w64 (by omega)];omega
    obtain⟨x,hx⟩: ∃x,X[i]?=some x:=⟨_,z'b hlt⟩
    have hxs:=hz x (z'l hx)
    have hxm:(X.map sD)[i]?=some (sD x):=by rw[z'J,hx];rfl
    have sl:=J.sl (k:=k+1) (by rw[hSl,hn2]) (by omega) (by omega) (by omega)
    have cf:=Zmg X Si (k+1) sl x hxs
    have zf:=Znq (bt:=bt) (gt:=gt) (bs:=bq) (cs:=n) (X:=X) (S:=Si) (H:=[]) (ds:=[sD x]) hgt (by omega)
    have hpl:posT X Si x<Si.length:=x'Z _ (by omega)
    refine ZdL (t:=35) (g:=gt) rfl fun hg=>?_
    rcases gt with _|⟨bg,cg⟩
    ·have h0:X.length=0:=hgt
     omega
    simp only[tbW,shp,hSl,z'K]at zf
    simp only[shp]
    refine VC.nodup fun hnd2=>?_
    have n3: ¬bq=bg:=fun h=>by subst h;simp[Heap.blocks]at hnd2
    have n4: ¬bt=bg:=fun h=>by subst h;simp[Heap.blocks]at hnd2
    repeat' first|refine dr (id:=8) T 9 (by kernel_rfl) ?_|refine gn ?_|apply VCg.step T rfl rfl;focus((try simp (disch:=omega) only[go_sem,Nat.reduceBEq,hwi]);(first|exact rfl|refine Op1.lend rfl rfl (cf) (zf) (.inr rfl) ?_;exact⟨rfl,rfl⟩))|refine vs T rfl fun K hK=>?_;(try simp (disch:=omega) only[go_sem,Nat.reduceBEq,hdi,hwi,hx,z'K,z'i]);(first|refine hK _ _ ?_;clear hK K|refine⟨?_,hK _ _ ?_⟩<;>clear hK K;focus(try omega))|refine st rfl ?_|refine sc rfl ?_|refine nl ?_
    all_goals first|omega|(rw[z'i];omega)|skip
    have hput:=J.put hx sl.free
    rw[show(i:Int)+1=((i+1:Nat):Int) by omega]at hput
    refine⟨⟨(i+1,Si.set (posT X Si x) ((i+1:Nat):Int)),by dsimp only;omega,by dsimp only;rw[y't];exact hSl,hput⟩,z'S ?_ ?_,by dsimp only;omega⟩
    ·dsimp only
     rw[x'd,z'K,z'K]
    ·simp[sub,upd]
   ·have hdi:decide ((i:Int)<(X.length:Int))=false:=by simp;omega
    obtain rfl:i=X.length:=by omega
    repeat' first|refine vs T rfl fun K hK=>?_;(try simp (disch:=omega) only[go_sem,Nat.reduceBEq,hdi]);(refine hK _ _ ?_;clear hK K)|refine st rfl ?_|refine sc rfl ?_|refine nl ?_
    refine v'9 T rfl (z'w _) ⟨(bq,n,Si),⟨⟨J,⟨k+1,by dsimp only;rw[hSl,hn2],by omega,by have:=Zuj (k:=k+1) (n:=n) (by omega) (by omega);omega⟩,by dsimp only;omega,by dsimp only;omega⟩,by dsimp only;omega⟩,rfl,?_⟩
    rw[←hSl]
end Go.Proofs.YthlkpnjjkgmlkaaGreat
/- Calls of functions that take blocks of one's own, wherever they stand. No condition. -/
namespace Go.Vc
set_option maxHeartbeats 16000000
set_option linter.unusedSimpArgs false
set_option linter.unusedVariables false
open Go
inductive Pick:Heap→Heap→Heap→Prop where
 |nil {H:Heap}:Pick [] H H
 |take {x:Nat×HC} {Hp H Hr:Heap}:Pick Hp H Hr→Pick (x::Hp) (x::H) Hr
 |skip {x:Nat×HC} {Hp H Hr:Heap}:Pick Hp H Hr→Pick Hp (x::H) (x::Hr)
theorem Pick.perm {Hp H Hr:Heap} (h:Pick Hp H Hr):H.Perm (Hp++Hr):=by
 induction h with
 |nil=>exact z'9 _
 |take _ ih=>exact List.Perm.cons _ ih
 |skip _ ih=>exact(List.Perm.cons _ ih).trans List.perm_middle.symm
theorem Op1.callV {P:Program} {o:Oper} {E:Operand→D} {f:FuncId} {xf:Operand} {xs:Array Operand} {tys:Array TypeId} {args:List D} {H Hp Hr:Heap} {fr:Bool} {dv:D} {hv:Heap} {K:D→Heap→Prop}
  (ho:o.op= .call ⟨.value xf,xs,tys⟩) (hE:E xf= .is (.func (.func f) #[] #[])) (h:Fun P f args Hp fr (fun d H'=>d=dv∧H'=hv)) (ha:xs.toList.map E=args) (hp:Pick Hp H Hr)
  (hk:K dv (hv++Hr)):Op1 P o E H K:=
 Op1.callG (caps:= #[]) ho hE (by simp only[Array.toList_empty,z'8,z's];exact ha) h hp.perm (fun d H' ⟨h1,h2⟩=>by subst h1;subst h2;exact hk)
theorem VCo.nodup {P:Program} {n:Nat} {ops:Array Oper} {l:List Oper} {s:St} {Q:Exit→St→Prop} (h:s.heap.blocks.Nodup→VCo P n ops l s Q):VCo P n ops l s Q:=fun x a w hn hs=>h hs.inv.nodup x a w hn hs
end Go.Vc
/- Contracts: where a path leads, as the reference says. No condition. -/
namespace Go.Proofs.YthlkpnjjkgmlkaaGreat
set_option maxHeartbeats 16000000
set_option linter.unusedSimpArgs false
set_option linter.unusedVariables false
set_option maxRecDepth 20000
open Go Go.Proofs Go.Vc
attribute [local irreducible] x'c VCg VCw VCx
section
variable {u : Un} {c : Cf} {m r : Int}
end
def Zdy (m r b:Int):Bool:=(decide (1≤m)&&decide (m≤3))&&((decide (1≤r)&&decide (r≤4))&&(decide (1≤b)&&decide (b≤100000)))
def Zj9 (u:Un) (m r b:Int):Int:=match y'G u,Zdy m r b with
 |false,_=>8
 |true,false=>1
 |true,true=>match Zdx u m r b with
  |some _=>0
  |none=>18
def spS (u:Un) (m r b:Int):Spc Cf:=match y'G u&&Zdy m r b with
 |true=>(Zdx u m r b).getD ⟨[],[],[],[]⟩
 |false=>⟨[],[],[],[]⟩
def spR (u:Un) (m r b:Int):List D:=match y'G u&&Zdy m r b with
 |true=>match Zdx u m r b with
  |some S=>spA S
  |none=>spC [] ⟨[],[],[]⟩ [] []
 |false=>spC [] ⟨[],[],[]⟩ [] []
abbrev spZ:List D:=[.gs none 0,.gs none 0,.gs none 0,.gs none 0,.gs none 0,.gs none 0]
theorem Zto {H:Heap} {a:D}:Fz H (.tup [.agg (spC [] ⟨[],[],[]⟩ [] []),a]) (.tup [.agg spZ,a]):=
 ⟨_,rfl,z'4 ⟨_,rfl,z'4 w'v (z'4 w'v (z'4 w'v (z'4 w'v (z'4 w'v (z'4 w'v v'o)))))⟩ (FzL.refl _ _)⟩
theorem Ztg {C:List Cf} {i:Nat} (h:i<C.length):((x'J C).flatten.drop (i*4)).take 4=cfC (C.getD i default):=by
 induction C generalizing i with
 |nil=>simp at h
 |cons c C ih=>
  cases i with
  |zero=>rfl
  |succ i=>
   have:(x'J (c::C)).flatten=cfC c++(x'J C).flatten:=rfl
   rw[this,show(i+1)*4=(cfC c).length+i*4 by simp;omega,List.drop_length_add_append,ih (by simpa using h)]
   simp
theorem Ztn {bc cc:Nat} {gp gb:Option (Nat×Nat)} {S:Spc Cf} {g:Cs} {H:Heap} {a:D} (h1:S.cf.length≤cc) (h2:gOk gp S.pa.length) (h3:gOk gb S.ag.length) (hm: ∀x,x∈(bc,HC.cells 69 (cc*4) (x'J S.cf).flatten)::shp gp 3 1 (S.pa.map iD) (shp gb 3 1 (S.ag.map iD) [])→x∈H):
  Fz H (.tup [.agg (spC S.cf g S.pa S.ag),a]) (.tup [.agg [.gs (some (bc,cc)) S.cf.length,y'c g.st,y'c g.ag,y'c g.to,.gs gp S.pa.length,.gs gb S.ag.length],a]):=by
 have z1:Fz H (.sl false 4 (x'J S.cf)) (.gs (some (bc,cc)) S.cf.length):=Zdd (e:=69) (Zoo S.cf).symm h1 (fun b c e=>by cases e;exact hm _ (z'n ..)) (FzR.refl _ _ (ZlR _))
 have z2:=v'l (e:=3) (s:=S.pa) (H:=H) h2 fun b c e=>hm _ (z'k _ (by subst e;exact v'g))
 have z3:=v'l (e:=3) (s:=S.ag) (H:=H) h3 fun b c e=>hm _ (z'k _ (ZcG (by subst e;exact v'g)))
 exact⟨_,rfl,z'4 ⟨_,rfl,z'4 z1 (z'4 (Fz.refl _ _) (z'4 (Fz.refl _ _) (z'4 (Fz.refl _ _) (z'4 z2 (z'4 z3 v'o)))))⟩ (FzL.refl _ _)⟩
theorem Ztm {gl:Option (Nat×Nat)} {S:Spc Cf} {H:Heap} (hg:gOk gl S.ed.length) (hm: ∀b cap,gl=some (b,cap)→(b,HC.cells 149 (cap*3) (Zbd (edS S)).flatten)∈H):Fz H (ZbI (edS S)) (.gs gl S.ed.length):=
 Zdd (e:=149) (by rw[ZcN,ZfO]) hg hm (FzR.refl _ _ (ZpY _))
end Go.Proofs.YthlkpnjjkgmlkaaGreat
