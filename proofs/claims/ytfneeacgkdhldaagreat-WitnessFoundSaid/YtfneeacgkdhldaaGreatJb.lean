/- Contracts: the reference's parts of a graph. No condition. -/
import Derived.Test.YtfneeacgkdhldaaGreatGe
import Derived.Test.YtfneeacgkdhldaaGreatGc
import Derived.Test.YtfneeacgkdhldaaGreatCv
namespace Go.Proofs.YtfneeacgkdhldaaGreat
set_option maxHeartbeats 16000000
set_option linter.unusedSimpArgs false
set_option linter.unusedVariables false
set_option maxRecDepth 20000
open Go Go.Proofs Go.Vc
attribute [local irreducible] y'5 VCg VCw VCx
theorem Fun.fzE {α:Type} {P:Program} {f:FuncId} {args:List D} {R:α→Prop} {F:α→D} (h:Fun P f args [] false (fun d H'=> ∃q,R q∧Fz H' (F q) d)):Fun P f args [] false (fun d H'=> ∃q,R q∧d=F q∧H'=[]):=by
 refine⟨h.1,fun w L0 vs hi hv=>(h.2 w L0 vs hi hv).mono fun ee w' ⟨v,he,d,H',⟨q,hq,hd⟩,h2,h3,h4⟩=>?_⟩
 refine⟨v,he,F q,[],⟨q,hq,rfl,rfl⟩,?_,SubH.inv (z'a _) h3,SubH.evo (z'a _) h4⟩
 have hl: ∀b,live [] (fun b=>L0 b∨(false=true∧b<w.heap.size∧b∉Heap.blocks [])) b→L0 b:=fun b hl=>by
  rcases hl with(hl|hl)|hl
  ·exact hl
  ·cases hl.1
  ·simp[Heap.blocks]at hl
 have h2':Rel w' (live H' L0) d v:=Rel.mono (Keeps.less fun b _ hl=>by
  rcases hl with hl|hl
  ·exact .inl (.inl hl)
  ·exact .inr hl) _ _ h2
 refine Rel.fz ⟨h3,fun b c hm=>⟨hm,fun hl'=>?_⟩,fun b _ hl'=> .inl (hl b hl')⟩ (F q) d v hd h2'
 exact h3.apart b (z'y.2 ⟨_,hm,rfl⟩) (hl b hl')
theorem Rch.trans {l:List Ed} {a b c:Int} (h:Rch l (fun x=>x=a) b) (k:Rch l (fun x=>x=b) c):Rch l (fun x=>x=a) c:=by
 induction k with
 |base hx=>rw[hx];exact h
 |step _ hm ih=>exact .step ih hm
def Mut (l:List Ed) (a b:Int):Prop:=Rch l (fun x=>x=a) b∧Rch l (fun x=>x=b) a
theorem Mut.refl (l:List Ed) (a:Int):Mut l a a:=⟨.base rfl,.base rfl⟩
theorem Mut.symm {l:List Ed} {a b:Int} (h:Mut l a b):Mut l b a:=⟨h.2,h.1⟩
theorem Mut.trans {l:List Ed} {a b c:Int} (h:Mut l a b) (k:Mut l b c):Mut l a c:=⟨h.1.trans k.1,k.2.trans h.2⟩
structure PrI (l:List Ed) (i next:Nat) (o:List Int):Prop where
 len:o.length=i
 le:next≤i
 in_: ∀k,k<i→0≤o.getD k 0∧o.getD k 0<next
 eq: ∀j k,j<i→k<i→o.getD j 0=o.getD k 0→Mut l (j:Int) (k:Int)
abbrev PrO (l:List Ed) (n:Nat) (o:List Int):Prop:= ∃nx,PrI l n nx o
theorem ZcH (o:List Int) (x:Int) {j:Nat} (h:j<o.length+1):(o++[x]).getD j 0=if j<o.length then o.getD j 0 else x:=by
 simp only[z'e,v'c]
 split
 ·rfl
 ·obtain rfl:j=o.length:=by omega
  simp
theorem PrI.new {l:List Ed} {i nx:Nat} {o:List Int} (h:PrI l i nx o):PrI l (i+1) (nx+1) (o++[(nx:Int)]):=by
 have hl:=h.len
 have key: ∀j,j<i→(o++[(nx:Int)]).getD j 0=o.getD j 0:=fun j hj=>by rw[ZcH o _ (by omega),if_pos (by omega)]
 have kl:(o++[(nx:Int)]).getD i 0=nx:=by rw[ZcH o _ (by omega),if_neg (by omega)]
 refine⟨by simp[hl],by have:=h.le;omega,fun k hk=>?_,fun j k hj hk he=>?_⟩
 ·rcases z'g k i with h'|h'
  ·rw[key k h'];have:=h.in_ k h';omega
  ·obtain rfl:k=i:=by omega
   rw[kl];omega
 ·rcases z'g j i with h1|h1<;>rcases z'g k i with h2|h2
  ·rw[key j h1,key k h2]at he;exact h.eq j k h1 h2 he
  ·obtain rfl:k=i:=by omega
   rw[key j h1,kl]at he
   have:=h.in_ j h1;omega
  ·obtain rfl:j=i:=by omega
   rw[key k h2,kl]at he
   have:=h.in_ k h2;omega
  ·obtain rfl:j=i:=by omega
   obtain rfl:k=j:=by omega
   exact Mut.refl _ _
theorem PrI.old {l:List Ed} {i nx:Nat} {o:List Int} (h:PrI l i nx o) {q:Nat} (hq:q<i) (hm:Mut l (i:Int) (q:Int)):PrI l (i+1) nx (o++[o.getD q 0]):=by
 have hl:=h.len
 have key: ∀j,j<i→(o++[o.getD q 0]).getD j 0=o.getD j 0:=fun j hj=>by rw[ZcH o _ (by omega),if_pos (by omega)]
 have kl:(o++[o.getD q 0]).getD i 0=o.getD q 0:=by rw[ZcH o _ (by omega),if_neg (by omega)]
 refine⟨by simp[hl],by have:=h.le;omega,fun k hk=>?_,fun j k hj hk he=>?_⟩
 ·rcases z'g k i with h'|h'
  ·rw[key k h'];exact h.in_ k h'
  ·obtain rfl:k=i:=by omega
   rw[kl];exact h.in_ q hq
 ·rcases z'g j i with h1|h1<;>rcases z'g k i with h2|h2
  ·rw[key j h1,key k h2]at he;exact h.eq j k h1 h2 he
  ·obtain rfl:k=i:=by omega
   rw[key j h1,kl]at he
   exact(h.eq j q h1 hq he).trans hm.symm
  ·obtain rfl:j=i:=by omega
   rw[key k h2,kl]at he
   exact hm.trans (h.eq q k hq h2 he)
  ·obtain rfl:j=i:=by omega
   obtain rfl:k=j:=by omega
   exact Mut.refl _ _
theorem Zcn {e eb:Nat} {ea full:Bool} {ez:List Value} {l:List (List Bool)} {k:IntKind} {n:Int} {K:D→Prop}:
  cIndexAddr (.slice e 1 eb ea ez) (.sl full 1 (v'3 l)) (.is (.int k n)) K=((0≤n∧n<l.length)∧K (.pt [x'F (l.getD n.toNat [])])):=Zbm (fun b=>[x'F b]) []
theorem Zco {e eb:Nat} {ea full:Bool} {ez:List Value} {l:List (List Int)} {k:IntKind} {n:Int} {K:D→Prop}:
  cIndexAddr (.slice e 1 eb ea ez) (.sl full 1 (y'V l)) (.is (.int k n)) K=((0≤n∧n<l.length)∧K (.pt [z'C (l.getD n.toNat [])])):=Zbm (fun b=>[z'C b]) []
theorem ZfX {α:Type} (f:α→D): ∀l:List α,(l.map fun x=>[f x]).flatten=l.map f
 |[]=>rfl
 |a::l=>by rw[z'B,z'0,ZfX f l];rfl
theorem Zlq {α:Type} (f:α→D) (l:List α): ∀r,r∈(l.map fun x=>[f x])→r.length=1:=by
 intro r hr
 obtain⟨x,_,rfl⟩:=z'y.1 hr
 rfl
theorem Ziw (l:List (List Bool)):(v'3 l).flatten=l.map x'F:=ZfX x'F l
theorem ZjH (l:List (List Bool)): ∀r,r∈v'3 l→r.length=1:=Zlq x'F l
theorem Zhj {H:Heap}: ∀(l:List Int),FzR H 1 (iRs l) (l.map iD)
 |[]=>trivial
 |n::l=>⟨rfl,⟨_,_,rfl,Fz.refl _ _,trivial⟩,Zhj l⟩
theorem Zhh {H:Heap}: ∀(l:List Bool),FzR H 1 (bRs l) (l.map bD)
 |[]=>trivial
 |n::l=>⟨rfl,⟨_,_,rfl,Fz.refl _ _,trivial⟩,Zhh l⟩
theorem Zkh {H:Heap}: ∀(l:List (List Int)),FzR H 1 (y'V l) (l.map z'C)
 |[]=>trivial
 |n::l=>⟨rfl,⟨_,_,rfl,Fz.refl _ _,trivial⟩,Zkh l⟩
noncomputable def Zef (g:Cs) (i:Nat):List Bool:=Zcr (x'S g) (inS [(i:Int)] (z'O g)) (z'O g)
theorem Zh7 (g:Cs) (i:Nat):(Zef g i).length=z'O g:=ZfR
theorem Zje {g:Cs} {i k:Nat} (hi:i<z'O g) (hk:k<z'O g):(Zef g i).getD k false=true↔Rch (x'S g) (fun x=>x=(i:Int)) (k:Int):=by
 unfold Zef
 rw[ZgQ hk,ZnO ⟨by omega,by omega⟩]
noncomputable abbrev rchL (g:Cs) (k:Nat):List (List Bool):=(List.range k).map (Zef g)
theorem Zjd {g:Cs} {n i:Nat} (h:i<n):(rchL g n).getD i []=Zef g i:=by simp[rchL,z'e,h]
theorem ZfN (g:Cs) (hg:OkG g) (hR:w'j g=true) (hn:z'O g≤1000):Fun Tryz.prog 86 [.agg (csC g)] [] false (fun d H'=> ∃q:List Int,PrO (x'S g) (z'O g) q∧d=z'C q∧H'=[]):=by
 have c0:=ZaL g hg
 refine Fun.fzE ?_
 refine Fun.of T [.tmp 2] Tryz.func86 rfl Tryz.ntmps86 Tryz.results86 rfl (by kernel_rfl) ?_
 repeat' first|refine vb (t:=32) rfl rfl rfl rfl ?_|refine vs T rfl fun K hK=>?_;(try simp (disch:=omega) only[go_sem,Nat.reduceBEq,Nat.reduceAdd,Nat.reduceLeDiff]);(first|refine hK _ _ ?_;clear hK K|refine Op1.callp rfl rfl (c0) rfl ?_;refine hK _ _ ?_;clear hK K)|refine st rfl ?_|refine nl ?_
 refine VC.loop {x:Nat×G//x.1≤z'O g∧gOk x.2 x.1} (fun x=>⟨z'J [(1,.pt (csC g)),(3,iD (z'O g:Nat)),(4,.gs x.1.2 x.1.1),(5,iD (x.1.1:Nat))],shp x.1.2 73 1 ((rchL g x.1.1).map x'F) []⟩) (fun x=>z'O g-x.1.1) ⟨(0,none),z'M _,rfl⟩ ?_ ?_
 ·refine Weak.sub ?_
  simp[sub,upd]
 rintro⟨⟨k,x⟩,hk,hx⟩
 dsimp only at hk hx⊢
 rcases z'g k (z'O g)with hlt|hge
 ·have c1:=ZjZ g hg hR [(k:Int)] (by simp)
  repeat' first|refine vs T rfl fun K hK=>?_;(try simp (disch:=omega) only[go_sem,Nat.reduceBEq,Nat.reduceAdd,Nat.reduceMul,Nat.reduceLeDiff,w64]);(first|refine hK _ _ ?_;clear hK K|refine⟨_,_,_,_,(by repeat (exact Sp.here)),?_,(by exact⟨rfl,rfl⟩),⟨by decide,?_⟩,fun g' hg'=>hK _ _ ?_⟩<;>clear hK K|refine Op1.callp rfl rfl (Fun.argsW (c1) (by repeat (first|exact x'T|refine z't ?_ ?_;focus(first|exact Fz.refl _ _|exact ZaJ)))) rfl ?_;refine hK _ _ ?_;clear hK K)|refine st rfl ?_|refine sc rfl ?_|refine nl ?_|with_reducible refine z'j (fun hc=>?_) (fun hc=>?_)<;>(try simp only[decide_eq_true_eq,decide_eq_false_iff_not,z'm]at hc)<;>(try(exfalso;omega))
  ·rw[z's,z's,List.length_range];omega
  ·omega
  ·refine⟨⟨(k+1,g'),by dsimp only;exact⟨by omega,hg'⟩⟩,z'v ?_ ?_,by dsimp only;omega⟩
   ·have e:(rchL g (k+1)).map x'F=(rchL g k).map x'F++[x'F (Zef g k)]:=by simp[rchL,y'l]
    dsimp only
    rw[e]
    rfl
   ·simp[sub,upd]
 obtain rfl:k=z'O g:=by omega
 have hLl:(rchL g (z'O g)).length=z'O g:=by simp[rchL]
 refine VC.weak (Weak.fzs (t:=4) (g:=x) (e:=73) (esz:=1) (rows:=v'3 (rchL g (z'O g))) (X:=[]) (by rw[Ziw]) (by rw[w'a,hLl];rfl) (ZjH _)) ?_
 repeat' first|refine vs T rfl fun K hK=>?_;(try simp (disch:=omega) only[go_sem,Nat.reduceBEq]);(refine hK _ _ ?_;clear hK K)|refine st rfl ?_|refine sc rfl ?_|refine nl ?_|with_reducible refine z'j (fun hc=>?_) (fun hc=>?_)<;>(try simp only[decide_eq_true_eq,decide_eq_false_iff_not,z'm]at hc)<;>(try(exfalso;omega))
 refine VC.loop {x:Nat×Nat×List Int×G//x.1≤z'O g∧PrI (x'S g) x.1 x.2.1 x.2.2.1∧gOk x.2.2.2 x.1} (fun x=>⟨z'J [(3,iD (z'O g:Nat)),(4,.sl false 1 (v'3 (rchL g (z'O g)))),(6,.gs x.1.2.2.2 x.1.1),(7,iD (x.1.2.1:Nat)),(8,iD (x.1.1:Nat))],shp x.1.2.2.2 3 1 (x.1.2.2.1.map iD) []⟩) (fun x=>z'O g-x.1.1) ⟨(0,0,[],none),z'M _,⟨rfl,z'w _,fun k hk=>by omega,fun j k hj=>by omega⟩,rfl⟩ ?_ ?_
 ·refine Weak.sub ?_
  simp[sub,upd]
 rintro⟨⟨i,nx,o,y⟩,hi,hP,hy⟩
 dsimp only at hi hP hy⊢
 have hol:=hP.len
 have hnx:=hP.le
 rcases z'g i (z'O g)with hlt|hge
 case inr=>
  obtain rfl:i=z'O g:=by omega
  repeat' first|refine vs T rfl fun K hK=>?_;(try simp (disch:=omega) only[go_sem,Nat.reduceBEq]);(refine hK _ _ ?_;clear hK K)|refine st rfl ?_|refine sc rfl ?_|refine nl ?_|with_reducible refine z'j (fun hc=>?_) (fun hc=>?_)<;>(try simp only[decide_eq_true_eq,decide_eq_false_iff_not,z'm]at hc)<;>(try(exfalso;omega))
  exact z'n T (z'p _) ⟨o,⟨nx,hP⟩,v'G (e:=3) (l:=o.map iD) (by rw[z'k,hol]) hy (fun b c e=>by subst e;exact x'x) (Zhj _)⟩
 repeat' first|refine vs T rfl fun K hK=>?_;(try simp (disch:=omega) only[go_sem,Nat.reduceBEq]);(refine hK _ _ ?_;clear hK K)|refine st rfl ?_|refine sc rfl ?_|refine nl ?_|with_reducible refine z'j (fun hc=>?_) (fun hc=>?_)<;>(try simp only[decide_eq_true_eq,decide_eq_false_iff_not,z'm]at hc)<;>(try(exfalso;omega))
 refine VC.loop {x:Nat×Int//x.1≤i∧(x.2= -1∨ ∃q,q<i∧Mut (x'S g) (i:Int) (q:Int)∧x.2=o.getD q 0)} (fun x=>⟨z'J [(3,iD (z'O g:Nat)),(4,.sl false 1 (v'3 (rchL g (z'O g)))),(6,.gs y i),(7,iD (nx:Nat)),(8,iD (i:Nat)),(9,iD x.1.2),(10,iD (x.1.1:Nat))],shp y 3 1 (o.map iD) []⟩) (fun x=>i-x.1.1) ⟨(0, -1),z'M _,.inl rfl⟩ ?_ ?_
 ·refine Weak.sub ?_
  simp[sub,upd]
 rintro⟨⟨k,p⟩,hk,hp⟩
 dsimp only at hk hp⊢
 rcases z'g k i with hki|hge
 ·have a1:=Zje hlt (show k<z'O g by omega)
  have a2:=Zje (show k<z'O g by omega) hlt
  have l1:=Zjd (g:=g) hlt
  have l2:=Zjd (g:=g) (show k<z'O g by omega)
  have n1:=Zh7 g i
  have n2:=Zh7 g k
  have oy:(o.map iD)[k]?=some (iD (o.getD k 0)):=by rw[y'c,w'7 (d:=0) (by omega)];rfl
  generalize hr1:(Zef g i).getD k false=r1 at a1
  generalize hr2:(Zef g k).getD i false=r2 at a2
  cases y with
  |none=>
   have:i=0:=hy
   omega
  |some yb=>
  obtain⟨yb,yc⟩:=yb
  repeat' first|refine vs T rfl fun K hK=>?_;(try simp (disch:=omega) only[go_sem,Nat.reduceBEq,Zcn,v'v,hLl,l1,l2,n1,n2,hr1,hr2,oy,w64,shp,z'f,z'u]);(first|refine hK _ _ ?_;clear hK K|refine⟨?_,hK _ _ ?_⟩<;>clear hK K;focus(try omega))|refine st rfl ?_|refine sc rfl ?_|refine nl ?_|refine gs rfl rfl ?_|with_reducible refine z'j (fun hc=>?_) (fun hc=>?_)<;>(try simp only[decide_eq_true_eq,decide_eq_false_iff_not,z'm]at hc)<;>(try(exfalso;omega))
  ·refine⟨⟨(k+1,o.getD k 0),hki,.inr ⟨k,hki,⟨a1.1 (by assumption),a2.1 (by assumption)⟩,rfl⟩⟩,z'v (by simp[shp]) ?_,by dsimp only;omega⟩
   simp[sub,upd]
  all_goals
   refine⟨⟨(k+1,p),hki,hp⟩,z'v (by simp[shp]) ?_,by dsimp only;omega⟩
   simp[sub,upd]
 obtain rfl:k=i:=by omega
 rcases hp with rfl|⟨q,hq,hm,rfl⟩
 ·repeat' first|refine vs T rfl fun K hK=>?_;(try simp (disch:=omega) only[go_sem,Nat.reduceBEq,Nat.reduceMul,Nat.reduceLeDiff,w64]);(first|refine hK _ _ ?_;clear hK K|refine⟨_,_,_,_,(by repeat (exact Sp.here)),?_,(by exact⟨rfl,rfl⟩),⟨by decide,?_⟩,fun g' hg'=>hK _ _ ?_⟩<;>clear hK K)|refine st rfl ?_|refine sc rfl ?_|refine nl ?_|with_reducible refine z'j (fun hc=>?_) (fun hc=>?_)<;>(try simp only[decide_eq_true_eq,decide_eq_false_iff_not,z'm]at hc)<;>(try(exfalso;omega))
  ·rw[z's,z'u];exact hol
  ·omega
  ·refine⟨⟨(k+1,nx+1,o++[(nx:Int)],g'),hlt,hP.new,hg'⟩,z'v ?_ ?_,by dsimp only;omega⟩
   ·dsimp only
    rw[z'E]
    rfl
   ·simp[sub,upd]
 ·have hq0:=hP.in_ q hq
  have hold:=hP.old hq hm
  generalize o.getD q 0=p at*
  repeat' first|refine vs T rfl fun K hK=>?_;(try simp (disch:=omega) only[go_sem,Nat.reduceBEq,Nat.reduceMul,Nat.reduceLeDiff,w64]);(first|refine hK _ _ ?_;clear hK K|refine⟨_,_,_,_,(by repeat (exact Sp.here)),?_,(by exact⟨rfl,rfl⟩),⟨by decide,?_⟩,fun g' hg'=>hK _ _ ?_⟩<;>clear hK K)|refine st rfl ?_|refine sc rfl ?_|refine nl ?_|with_reducible refine z'j (fun hc=>?_) (fun hc=>?_)<;>(try simp only[decide_eq_true_eq,decide_eq_false_iff_not,z'm]at hc)<;>(try(exfalso;omega))
  ·rw[z's,z'u];exact hol
  ·omega
  ·refine⟨⟨(k+1,nx,o++[p],g'),hlt,hold,hg'⟩,z'v ?_ ?_,by dsimp only;omega⟩
   ·dsimp only
    rw[z'E]
    rfl
   ·simp[sub,upd]
def inP (P:List Int) (In:List Bool) (p:Nat) (i:Nat):Bool:=(P.getD i 0 == (p:Int))&&(decide ((i:Int)<In.length)&&In.getD i false)
def Zck (P:List Int) (In:List Bool) (p k:Nat):List Int:=((List.range k).filter (inP P In p)).map fun(i:Nat)=>(i:Int)
abbrev Zan (P:List Int) (In:List Bool) (p:Nat):List Int:=Zck P In p P.length
def Zbl (P:List Int) (In:List Bool) (k:Nat):List (List Int):=((List.range k).map (Zan P In)).filter fun l=> !l.isEmpty
abbrev ZaN (P:List Int) (In:List Bool):List (List Int):=Zbl P In P.length
theorem ZkT (P:List Int) (In:List Bool) (p k:Nat):Zck P In p (k+1)=Zck P In p k++(match inP P In p k with|true=>[(k:Int)]|false=>[]):=by
 unfold Zck
 rw[y'l,y'D,z'E]
 congr 1
 cases h:inP P In p k<;>simp[h]
theorem ZhE (P:List Int) (In:List Bool) (p k:Nat):(Zck P In p k).length≤k:=by
 unfold Zck
 rw[z's]
 exact y'z (List.length_filter_le _ _) (by simp)
theorem ZkU (P:List Int) (In:List Bool) (k:Nat):Zbl P In (k+1)=Zbl P In k++(match (Zan P In k).isEmpty with|true=>[]|false=>[Zan P In k]):=by
 unfold Zbl
 rw[y'l,z'E,y'D]
 congr 1
 cases h:(Zan P In k).isEmpty<;>simp[h]
theorem Ze7 (P:List Int) (In:List Bool) (k:Nat):(Zbl P In k).length≤k:=by
 unfold Zbl
 exact y'z (List.length_filter_le _ _) (by simp)
theorem ZeP (P:List Int) (In:List Bool) (hP:P.length≤1000) (hI:In.length≤1000000):Pure Tryz.prog 87 [z'C P,x'F In] (.sl false 1 (y'V (ZaN P In))):=by
 refine Fun.fz ?_
 refine Fun.of T [.tmp 4] Tryz.func87 rfl Tryz.ntmps87 Tryz.results87 rfl (by kernel_rfl) ?_
 repeat' first|refine vs T rfl fun K hK=>?_;(try simp (disch:=omega) only[go_sem]);(refine hK _ _ ?_;clear hK K)|refine st rfl ?_|refine nl ?_
 refine VC.loop {x:Nat×G//x.1≤P.length∧gOk x.2 (Zbl P In x.1).length} (fun x=>⟨z'J [(0,z'C P),(1,x'F In),(5,.gs x.1.2 (Zbl P In x.1.1).length),(6,iD (x.1.1:Nat))],shp x.1.2 22 1 ((Zbl P In x.1.1).map z'C) []⟩) (fun x=>P.length-x.1.1) ⟨(0,none),z'M _,rfl⟩ ?_ ?_
 ·refine Weak.sub ?_
  simp[sub,upd,Zbl]
 rintro⟨⟨p,x⟩,hp,hx⟩
 dsimp only at hp hx⊢
 rcases z'g p P.length with hlt|hge
 case inr=>
  obtain rfl:p=P.length:=by omega
  repeat' first|refine vs T rfl fun K hK=>?_;(try simp (disch:=omega) only[go_sem,Nat.reduceBEq,z'k]);(refine hK _ _ ?_;clear hK K)|refine st rfl ?_|refine sc rfl ?_|refine nl ?_|with_reducible refine z'j (fun hc=>?_) (fun hc=>?_)<;>(try simp only[decide_eq_true_eq,decide_eq_false_iff_not,z'm]at hc)<;>(try(exfalso;omega))
  exact z'n T (z'p _) (v'G (e:=22) (l:=(ZaN P In).map z'C) (by rw[y'm]) hx (fun b c e=>by subst e;exact x'x) (Zkh _))
 repeat' first|refine vs T rfl fun K hK=>?_;(try simp (disch:=omega) only[go_sem,Nat.reduceBEq,z'k]);(refine hK _ _ ?_;clear hK K)|refine st rfl ?_|refine sc rfl ?_|refine nl ?_|with_reducible refine z'j (fun hc=>?_) (fun hc=>?_)<;>(try simp only[decide_eq_true_eq,decide_eq_false_iff_not,z'm]at hc)<;>(try(exfalso;omega))
 have hgl:=Ze7 P In p
 refine VC.loop {z:Nat×G//z.1≤P.length∧gOk z.2 (Zck P In p z.1).length} (fun z=>⟨z'J [(0,z'C P),(1,x'F In),(5,.gs x (Zbl P In p).length),(6,iD (p:Nat)),(7,.gs z.1.2 (Zck P In p z.1.1).length),(8,iD (z.1.1:Nat))],shp z.1.2 3 1 ((Zck P In p z.1.1).map iD) (shp x 22 1 ((Zbl P In p).map z'C) [])⟩) (fun z=>P.length-z.1.1) ⟨(0,none),z'M _,rfl⟩ ?_ ?_
 ·refine z'v rfl ?_
  simp[sub,upd,Zck]
 rintro⟨⟨k,y⟩,hk,hy⟩
 dsimp only at hk hy⊢
 rcases z'g k P.length with hkl|hge
 ·have hs:=ZkT P In p k
  have hlen:=ZhE P In p k
  by_cases h1:P.getD k 0=(p:Int)
  ·by_cases h2:(k:Int)<In.length
   ·have hv:inP P In p k=In.getD k false:=by unfold inP;rw[h1,decide_eq_true h2];simp
    rw[hv]at hs
    cases h3:In.getD k false with
    |true=>
     rw[h3]at hs
     simp only at hs
     repeat' first|refine vs T rfl fun K hK=>?_;(try simp (disch:=omega) only[go_sem,Nat.reduceBEq,Nat.reduceMul,Nat.reduceLeDiff,y'w,v'v,z'k,w'5,h1,h3,w64,z'f]);(first|refine hK _ _ ?_;clear hK K|refine⟨_,_,_,_,(by repeat (exact Sp.here)),?_,(by exact⟨rfl,rfl⟩),⟨by decide,?_⟩,fun g' hg'=>hK _ _ ?_⟩<;>clear hK K|refine⟨?_,hK _ _ ?_⟩<;>clear hK K;focus(try omega))|refine st rfl ?_|refine sc rfl ?_|refine nl ?_|refine gs rfl rfl ?_|with_reducible refine z'j (fun hc=>?_) (fun hc=>?_)<;>(try simp only[decide_eq_true_eq,decide_eq_false_iff_not,z'm]at hc)<;>(try(exfalso;omega))
     ·rw[z's,z'u]
     ·omega
     ·refine⟨⟨(k+1,g'),hkl,by rw[hs,z'o];exact hg'⟩,z'v ?_ ?_,by dsimp only;omega⟩
      ·dsimp only
       rw[hs,z'E]
       rfl
      ·simp[sub,upd,hs]
    |false=>
     rw[h3]at hs
     simp only[z'x]at hs
     repeat' first|refine vs T rfl fun K hK=>?_;(try simp (disch:=omega) only[go_sem,Nat.reduceBEq,y'w,v'v,z'k,w'5,h1,h3,w64,z'f]);(first|refine hK _ _ ?_;clear hK K|refine⟨?_,hK _ _ ?_⟩<;>clear hK K;focus(try omega))|refine st rfl ?_|refine sc rfl ?_|refine nl ?_|refine gs rfl rfl ?_|with_reducible refine z'j (fun hc=>?_) (fun hc=>?_)<;>(try simp only[decide_eq_true_eq,decide_eq_false_iff_not,z'm]at hc)<;>(try(exfalso;omega))
     refine⟨⟨(k+1,y),hkl,by rw[hs];exact hy⟩,z'v (by dsimp only;rw[hs]) ?_,by dsimp only;omega⟩
     simp[sub,upd,hs]
   ·have hv:inP P In p k=false:=by unfold inP;rw[decide_eq_false h2];simp
    rw[hv]at hs
    simp only[z'x]at hs
    repeat' first|refine vs T rfl fun K hK=>?_;(try simp (disch:=omega) only[go_sem,Nat.reduceBEq,y'w,z'k,w'5,h1,w64,z'f]);(first|refine hK _ _ ?_;clear hK K|refine⟨?_,hK _ _ ?_⟩<;>clear hK K;focus(try omega))|refine st rfl ?_|refine sc rfl ?_|refine nl ?_|refine gs rfl rfl ?_|with_reducible refine z'j (fun hc=>?_) (fun hc=>?_)<;>(try simp only[decide_eq_true_eq,decide_eq_false_iff_not,z'm]at hc)<;>(try(exfalso;omega))
    refine⟨⟨(k+1,y),hkl,by rw[hs];exact hy⟩,z'v (by dsimp only;rw[hs]) ?_,by dsimp only;omega⟩
    simp[sub,upd,hs]
  ·have hv:inP P In p k=false:=by unfold inP;rw[beq_eq_false_iff_ne.2 h1];rfl
   rw[hv]at hs
   simp only[z'x]at hs
   repeat' first|refine vs T rfl fun K hK=>?_;(try simp (disch:=omega) only[go_sem,Nat.reduceBEq,y'w,z'k,w64,z'f]);(first|refine hK _ _ ?_;clear hK K|refine⟨?_,hK _ _ ?_⟩<;>clear hK K;focus(try omega))|refine st rfl ?_|refine sc rfl ?_|refine nl ?_|refine gs rfl rfl ?_|with_reducible refine z'j (fun hc=>?_) (fun hc=>?_)<;>(try simp only[decide_eq_true_eq,decide_eq_false_iff_not,beq_iff_eq,beq_eq_false_iff_ne,ne_eq,z'm]at hc)<;>(try(exfalso;omega))
   refine⟨⟨(k+1,y),hkl,by rw[hs];exact hy⟩,z'v (by dsimp only;rw[hs]) ?_,by dsimp only;omega⟩
   simp[sub,upd,hs]
 obtain rfl:k=P.length:=by omega
 refine VC.weak (Weak.fzs (t:=7) (g:=y) (e:=3) (esz:=1) (rows:=iRs (Zan P In p)) (X:=shp x 22 1 ((Zbl P In p).map z'C) []) (by rw[Zac]) (by rw[z'k];rfl) (Zb9 _)) ?_
 have hs:=ZkU P In p
 cases he:(Zan P In p).isEmpty with
 |true=>
  rw[he]at hs
  simp only[z'x]at hs
  have h0:(Zan P In p).length=0:=by simpa using he
  repeat' first|refine vs T rfl fun K hK=>?_;(try simp (disch:=omega) only[go_sem,Nat.reduceBEq,z'k,h0,w64]);(refine hK _ _ ?_;clear hK K)|refine st rfl ?_|refine sc rfl ?_|refine nl ?_|with_reducible refine z'j (fun hc=>?_) (fun hc=>?_)<;>(try simp only[decide_eq_true_eq,decide_eq_false_iff_not,z'm]at hc)<;>(try(exfalso;omega))
  refine⟨⟨(p+1,x),hlt,by rw[hs];exact hx⟩,z'v (by dsimp only;rw[hs]) ?_,by dsimp only;omega⟩
  simp[sub,upd,hs]
 |false=>
  rw[he]at hs
  simp only at hs
  have h0:0<(Zan P In p).length:=by
   rcases y'3 (Zan P In p).length with h0|h0
   ·rw[List.length_eq_zero_iff]at h0
    rw[h0]at he;cases he
   ·exact h0
  generalize Zan P In p=W at*
  repeat' first|refine vs T rfl fun K hK=>?_;(try simp (disch:=omega) only[go_sem,Nat.reduceBEq,Nat.reduceMul,Nat.reduceLeDiff,z'k,w64]);(first|refine hK _ _ ?_;clear hK K|refine⟨_,_,_,_,(by repeat (exact Sp.here)),?_,(by exact⟨rfl,rfl⟩),⟨by decide,?_⟩,fun g' hg'=>hK _ _ ?_⟩<;>clear hK K)|refine st rfl ?_|refine sc rfl ?_|refine nl ?_|with_reducible refine z'j (fun hc=>?_) (fun hc=>?_)<;>(try simp only[decide_eq_true_eq,decide_eq_false_iff_not,gt_iff_lt,z'm]at hc)<;>(try(exfalso;omega))
  ·rw[z's,z'u]
  ·omega
  ·refine⟨⟨(p+1,g'),hlt,by rw[hs,z'o];exact hg'⟩,z'v ?_ ?_,by dsimp only;omega⟩
   ·dsimp only
    rw[hs,z'E]
    rfl
   ·simp[sub,upd,hs]
theorem ZjW {g:Cs} (hg:OkG g) (hR:w'j g=true) (hn:z'O g≤1000) (In:List Bool):OkG (x'P (z'O g) (x'M g In))∧w'j (x'P (z'O g) (x'M g In))=true∧z'O (x'P (z'O g) (x'M g In))=z'O g∧x'S (x'P (z'O g) (x'M g In))=x'M g In:=by
 have G:=x'G.1 hR
 obtain⟨h1,h2⟩:=Zmf G In
 have hlen:(x'M g In).length≤1000000:=by
  rw[ZhP]
  exact y'z (List.length_filter_le _ _) (Za3 hg hR)
 have h3:=Zip (x'M g In) (z'O g)
 refine⟨⟨?_,?_,?_⟩,x'G.2 (Zd0 h1),Zcq h1,Zfs h1 h2⟩
 ·simp only[x'P,z's,List.length_range];omega
 ·simp only[x'P,z's];omega
 ·simp only[x'P,z's];omega
theorem ZeX (g:Cs) (hg:OkG g) (hR:w'j g=true) (hn:z'O g≤1000) (In:List Bool) (hI:In.length≤1000000):Fun Tryz.prog 80 [.agg (csC g),x'F In] [] false (fun d H'=> ∃q:List Int,PrO (x'M g In) (z'O g) q∧d= .sl false 1 (y'V (ZaN q In))∧H'=[]):=by
 obtain⟨k1,k2,k3,k4⟩:=ZjW hg hR hn In
 have c1:=ZkZ g hg hR (by omega) In hI
 have c2:=ZfN _ k1 k2 (by omega)
 rw[k3,k4]at c2
 have c3: ∀q,PrO (x'M g In) (z'O g) q→Pure Tryz.prog 87 [z'C q,x'F In] (.sl false 1 (y'V (ZaN q In))):=fun q ⟨nx,hq⟩=>ZeP q In (by have:=hq.len;omega) hI
 refine Fun.of T [.tmp 4] Tryz.func80 rfl Tryz.ntmps80 Tryz.results80 rfl (by kernel_rfl) ?_
 repeat' first|refine vb (t:=32) rfl rfl rfl rfl ?_|refine vs T rfl fun K hK=>?_;(try simp (disch:=omega) only[go_sem,Nat.reduceBEq,Nat.reduceAdd,Nat.reduceLeDiff]);(first|refine hK _ _ ?_;clear hK K|refine Op1.callp rfl rfl (c1) rfl ?_;refine hK _ _ ?_;clear hK K|refine Op1.callp rfl rfl (c3 _ (by assumption)) rfl ?_;refine hK _ _ ?_;clear hK K|refine Op1.callx rfl rfl (c2) rfl (fun q hq=>?_);refine hK _ _ ?_;clear hK K)|refine st rfl ?_|refine nl ?_
 exact z'n T (z'a _) ⟨q,hq,rfl,rfl⟩
theorem ZhX {n k:Nat} (h:k<n):((List.replicate k true++List.replicate (n-k) false).map bD).set k (bD true)=(List.replicate (k+1) true++List.replicate (n-(k+1)) false).map bD:=by
 rw[←y'n]
 congr 1
 rw[show n-k=(n-(k+1))+1 by omega,y'F (n:=n-(k+1)),List.set_append_right _ _ (by simp),y'Z,Nat.sub_self,List.set_cons_zero,List.replicate_succ' (n:=k),y'u]
 rfl
theorem ZhD (g:Cs) (hg:OkG g) (hR:w'j g=true) (hn:z'O g≤1000):Fun Tryz.prog 52 [.agg (csC g)] [] false (fun d H'=> ∃q:List Int,PrO (x'S g) (z'O g) q∧d= .sl false 1 (y'V (ZaN q (List.replicate (z'O g) true)))∧H'=[]):=by
 have c2:=ZfN _ hg hR (by omega)
 have c3: ∀q,PrO (x'S g) (z'O g) q→Pure Tryz.prog 87 [z'C q,x'F (List.replicate (z'O g) true)] (.sl false 1 (y'V (ZaN q (List.replicate (z'O g) true)))):=fun q ⟨nx,hq⟩=>ZeP q _ (by have:=hq.len;omega) (by rw[y'Z];omega)
 refine Fun.of T [.tmp 2] Tryz.func52 rfl Tryz.ntmps52 Tryz.results52 rfl (by kernel_rfl) ?_
 repeat' first|refine vb (t:=32) rfl rfl rfl rfl ?_|refine vs T rfl fun K hK=>?_;(try simp (disch:=omega) only[go_sem,Nat.reduceBEq,Nat.reduceAdd,Nat.reduceLeDiff]);(first|refine hK _ _ ?_;clear hK K|refine⟨?_,fun bq hbq=>?_⟩;rotate_left;(try simp only[HB]at hbq);refine hK _ _ ?_;all_goals clear hK K|refine Op1.callx rfl rfl (c2) rfl (fun q hq=>?_);refine hK _ _ ?_;clear hK K)|refine st rfl ?_|refine nl ?_
 ·have hl:q.length=z'O g:=by obtain⟨nx,hq⟩:=hq;exact hq.len
  have hil:(iRs q).length=z'O g:=by rw[z'k,hl]
  rw[hil,Zdi]
  generalize z'O g=n at*
  refine VC.loop {k:Nat//k≤n} (fun x=>⟨z'J [(3,z'C q),(4,.gs (some (bq,n)) n),(5,iD (x.1:Nat))],[(bq,.cells 4 (n*1) ((List.replicate x.1 true++List.replicate (n-x.1) false).map bD))]⟩) (fun x=>n-x.1) ⟨0,z'M _⟩ ?_ ?_
  ·refine Weak.sub ?_
   simp[sub,upd]
  rintro⟨k,hk⟩
  dsimp only
  rcases z'g k n with hlt|hge
  ·have hs:=ZhX hlt
   repeat' first|refine vs T rfl fun K hK=>?_;(try simp (disch:=omega) only[go_sem,Nat.reduceBEq,hil,w64,z'f,z'u]);(first|refine hK _ _ ?_;clear hK K|refine⟨?_,hK _ _ ?_⟩<;>clear hK K;focus(try omega))|refine st rfl ?_|refine sc rfl ?_|refine nl ?_|with_reducible refine z'j (fun hc=>?_) (fun hc=>?_)<;>(try simp only[decide_eq_true_eq,decide_eq_false_iff_not,z'm]at hc)<;>(try(exfalso;omega))
   ·simp;omega
   ·refine⟨⟨k+1,hlt⟩,z'v ?_ ?_,by dsimp only;omega⟩
    ·dsimp only
     rw[←hs,z'u]
    ·simp[sub,upd]
  obtain rfl:k=n:=by omega
  rw[Nat.sub_self,List.replicate_zero,z'x]
  refine VC.weak (Weak.fzs (t:=4) (g:=some (bq,k)) (e:=4) (esz:=1) (rows:=bRs (List.replicate k true)) (X:=[]) (by rw[Zcd];exact y'K _) (by rw[w'5,y'Z];rfl) (Zc4 _)) ?_
  have c3':=c3 q hq
  repeat' first|refine vs T rfl fun K hK=>?_;(try simp (disch:=omega) only[go_sem,Nat.reduceBEq,hil]);(first|refine hK _ _ ?_;clear hK K|refine Op1.callp rfl rfl (c3') rfl ?_;refine hK _ _ ?_;clear hK K)|refine st rfl ?_|refine sc rfl ?_|refine nl ?_|with_reducible refine z'j (fun hc=>?_) (fun hc=>?_)<;>(try simp only[decide_eq_true_eq,decide_eq_false_iff_not,z'm]at hc)<;>(try(exfalso;omega))
  exact z'n T (z'a _) ⟨q,hq,rfl,rfl⟩
 ·rw[z'k]
  obtain⟨nx,hq⟩:=hq
  have:=hq.len
  omega
end Go.Proofs.YtfneeacgkdhldaaGreat
