/- The plain law of code's value. No condition. -/
import Derived.Test.YtomcmfbpmkklmaaGreatXk
import Derived.Test.YtomcmfbpmkklmaaGreatXg
import Derived.Test.YtomcmfbpmkklmaaGreatK2
namespace Go.Proofs.YtomcmfbpmkklmaaGreat
set_option maxHeartbeats 16000000
set_option linter.unusedSimpArgs false
set_option linter.unusedVariables false
open Go Go.Proofs Go.Vc
def w'm (md:Int) (own:List Int) (all:List (List Int)) (mem:List Int) (s:List Int) (x:Opc):List Int:=
 if x.1=1 then s++[x.2.1.tmod md]else if x.1=2 then s++[own.getD x.2.1.toNat 0]else if x.1=3 then s++[mem.getD x.2.1.toNat 0]else if x.1=4 then s++[(all.getD x.2.2.toNat []).getD x.2.1.toNat 0]
 else if x.1=5 then s.set (s.length-1) (tI (s.getD (s.length-1) 0 == 0))else(s.set (s.length-2) (x'G x.1 (s.getD (s.length-2) 0) (s.getD (s.length-1) 0) md)).take (s.length-1)
def ZgP (md:Int) (own:List Int) (all:List (List Int)) (mem:List Int) (l:List Opc) (s:List Int):List Int:=l.foldl (w'm md own all mem) s
def x'R (all:List (List Int)):List Int:=all.map fun r=>(r.length:Int)
def v'9 (l:List Opc) (md:Int) (own:List Int) (all:List (List Int)) (mem:List Int):Bool:=
 decide (2≤md)&&decide (md≤16)&&y'z own md&&y'z mem md&&(all.all fun r=>y'z r md)&&y'X l (x'R all) own.length mem.length
def Zdo (l:List Opc) (md:Int) (own:List Int) (all:List (List Int)) (mem:List Int):Int:=match v'9 l md own all mem with|true=>(ZgP md own all mem l []).getD 0 0|false=>0
theorem y'7 {n m:Int}:inB n m=true↔0≤n∧n<m:=by simp[inB]
theorem Zi7 {s t:List Int} {md:Int}:y'z (s++t) md=(y'z s md&&y'z t md):=by simp[y'z]
theorem Zb0 {s:List Int} {md:Int} (h:y'z s md=true) {i:Nat} {n:Int} (hn:s[i]?=some n):0≤n∧n<md:=by
 unfold y'z at h
 rw[z'B]at h
 exact y'7.1 (h n (z'f hn))
theorem ZaU {s:List Int} {md:Int} (h:y'z s md=true) (hm:0<md) (i:Nat):0≤s.getD i 0∧s.getD i 0<md:=by
 rw[z'd]
 cases hq:s[i]? with
 |none=>exact⟨Int.le_refl _,hm⟩
 |some n=>exact Zb0 h hq
theorem Zk7 {s:List Int} {md:Int} (h:y'z s md=true) (k:Nat):y'z (s.take k) md=true:=by
 unfold y'z at*
 rw[z'B]at*
 exact fun x hx=>h x (v'x hx)
theorem ZdX {s:List Int} {md:Int} (h:y'z s md=true) (k:Nat) {v:Int} (hv:0≤v∧v<md):y'z (s.set k v) md=true:=by
 unfold y'z at*
 rw[z'B]at*
 intro x hx
 rcases List.mem_or_eq_of_mem_set hx with h'|h'
 ·exact h x h'
 ·subst h';exact y'7.2 hv
theorem ZhK (b:Bool):0≤tI b∧tI b≤1:=by cases b<;>decide
theorem Zfa {a md:Int} (h0:0≤a) (hm:0<md):0≤a.tmod md∧a.tmod md<md:=by
 rw[v'r h0]
 exact⟨Int.emod_nonneg _ (by omega),Int.emod_lt_of_pos _ hm⟩
theorem Znp {op a b md:Int} (hm:2≤md) (ha:0≤a∧a<md) (hb:0≤b∧b<md):0≤x'G op a b md∧x'G op a b md<md:=by
 have t: ∀c:Bool,0≤tI c∧tI c<md:=fun c=>⟨(ZhK c).1,by have:=(ZhK c).2;omega⟩
 unfold x'G
 repeat' split
 all_goals first
  |exact t _
  |exact Zfa (by omega) (by omega)
  |exact Zfa (Int.mul_nonneg ha.1 hb.1) (by omega)
theorem Zd6 {op n:Int} (h:1≤op∧op≤4):y'D op n=some (n+1):=by simp[y'D,h]
theorem Zki {md:Int} (hm:2≤md) {own mem s:List Int} {all:List (List Int)} {x:Opc} (ho:y'K (x'R all) own.length mem.length x=true) (hown:y'z own md=true) (hmem:y'z mem md=true)
  (hall:(all.all fun r=>y'z r md)=true) (hs:y'z s md=true) {n':Int} (hl:y'D x.1 s.length=some n'):y'z (w'm md own all mem s x) md=true∧((w'm md own all mem s x).length:Int)=n':=by
 have one: ∀v,0≤v∧v<md→y'z (s++[v]) md=true:=fun v hv=>by
  rw[Zi7,hs]
  simp[y'z,y'7,inB,hv]
 have len1: ∀v:Int,((s++[v]).length:Int)=s.length+1:=fun v=>by simp
 unfold w'm
 by_cases h1:x.1=1
 ·rw[if_pos h1]
  rw[Zd6 (by omega)]at hl;cases hl
  have h0:0≤x.2.1:=by
   have:inB x.2.1 10000=true:=by simpa[y'K,h1]using ho
   exact(y'7.1 this).1
  exact⟨one _ (Zfa h0 (by omega)),len1 _⟩
 rw[if_neg h1]
 by_cases h2:x.1=2
 ·rw[if_pos h2]
  rw[Zd6 (by omega)]at hl;cases hl
  exact⟨one _ (ZaU hown (by omega) _),len1 _⟩
 rw[if_neg h2]
 by_cases h3:x.1=3
 ·rw[if_pos h3]
  rw[Zd6 (by omega)]at hl;cases hl
  exact⟨one _ (ZaU hmem (by omega) _),len1 _⟩
 rw[if_neg h3]
 by_cases h4:x.1=4
 ·rw[if_pos h4]
  rw[Zd6 (by omega)]at hl;cases hl
  refine⟨one _ ?_,len1 _⟩
  rw[z'd (l:=all)]
  cases hq:all[x.2.2.toNat]? with
  |none=>simp;omega
  |some r=>
   rw[z'B]at hall
   exact ZaU (hall r (z'f hq)) (by omega) _
 rw[if_neg h4]
 by_cases h5:x.1=5
 ·rw[if_pos h5]
  have:y'D x.1 s.length=some (s.length:Int)∨y'D x.1 s.length=none:=by
   unfold y'D
   rw[if_neg (by omega)]
   split
   ·exact .inl rfl
   ·rw[if_neg (by omega)];exact .inr rfl
  rcases this with h|h<;>rw[h]at hl<;>cases hl
  exact⟨ZdX hs _ ⟨(ZhK _).1,by have:=(ZhK (s.getD (s.length-1) 0 == 0)).2;omega⟩,by simp⟩
 rw[if_neg h5]
 have:(2≤(s.length:Int)∧y'D x.1 s.length=some ((s.length:Int)-1))∨y'D x.1 s.length=none:=by
  unfold y'D
  by_cases hq:1≤x.1∧x.1≤4
  ·omega
  rw[if_neg hq,if_neg (by omega)]
  split
  ·rename_i h;exact .inl ⟨h.2,rfl⟩
  ·exact .inr rfl
 rcases this with⟨h2',h⟩|h<;>rw[h]at hl<;>cases hl
 refine⟨Zk7 (ZdX hs _ (Znp hm (ZaU hs (by omega) _) (ZaU hs (by omega) _))) _,?_⟩
 rw[z'A,y'u]
 omega
structure RunI (md:Int) (own:List Int) (all:List (List Int)) (mem:List Int) (l:List Opc) (k:Nat) (s:List Int):Prop where
 le:k≤l.length
 len:s.length≤k
 inm:y'z s md=true
 ok: ∃most,oneL (w'U (l.drop k) s.length most)=true
 run:ZgP md own all mem (l.drop k) s=ZgP md own all mem l []
theorem RunI.zero {md:Int} {own mem:List Int} {all:List (List Int)} {l:List Opc} (h:oneL (w'U l 0 0)=true):RunI md own all mem l 0 []:=
 ⟨z'6 _,z'v _,rfl,⟨0,by simpa using h⟩,by simp⟩
theorem RunI.next {md:Int} (hm:2≤md) {own mem s:List Int} {all:List (List Int)} {l:List Opc} {k:Nat} {x:Opc} (h:RunI md own all mem l k s) (hx:l[k]?=some x) (ho:y'K (x'R all) own.length mem.length x=true) (hown:y'z own md=true) (hmem:y'z mem md=true)
  (hall:(all.all fun r=>y'z r md)=true):(∃n',y'D x.1 s.length=some n')∧RunI md own all mem l (k+1) (w'm md own all mem s x):=by
 have hlt:=(z'c.1 hx).1
 have hdr:l.drop k=x::l.drop (k+1):=by rw[x'c hlt];congr 1;exact y'n ((z'b hlt).symm.trans hx)
 obtain⟨most,hok⟩:=h.ok
 rw[hdr,ZdJ]at hok
 cases hs:y'D x.1 s.length with
 |none=>rw[hs]at hok;cases hok
 |some n'=>
  rw[hs]at hok
  obtain⟨h1,h2⟩:=Zki hm ho hown hmem hall h.inm hs
  refine⟨⟨n',rfl⟩,by omega,?_,h1,⟨max most n',by rw[h2];exact hok⟩,?_⟩
  ·have:=h.len
   have hn:n'≤s.length+1:=by
    unfold y'D at hs
    repeat' split at hs
    all_goals first|(cases hs;omega)|cases hs
   omega
  ·rw[←h.run,hdr];rfl
theorem RunI.last {md:Int} {own mem s:List Int} {all:List (List Int)} {l:List Opc} {k:Nat} (h:RunI md own all mem l k s) (hk:l.length≤k):s=ZgP md own all mem l []∧s.length=1:=by
 have hr:=h.run
 obtain⟨most,hok⟩:=h.ok
 rw[x'X hk]at hr hok
 refine⟨hr,?_⟩
 have:((s.length:Int) == 1)=true:=hok
 have:=eq_of_beq this
 omega
theorem Zgy (s:List Int):(iRs s).flatten=s.map iD:=by
 unfold iRs
 induction s with
 |nil=>rfl
 |cons n s ih=>rw[z'z,z'X,ih];rfl
theorem x'4 {g:Option (Nat×Nat)} {e:TypeId} {s:List Int} {H:Heap} (hg:gOk g s.length) (hm: ∀b cap,g=some (b,cap)→(b,HC.cells e (cap*1) (s.map iD))∈H):Fz H (z'S s) (.gs g s.length):=by
 cases g with
 |none=>
  have h0:s=[]:=z'P hg
  subst h0
  exact y'v
 |some p=>
  obtain⟨b,cap⟩:=p
  refine .inr ⟨rfl,.inr (.inr ⟨b,0,_,cap,.inl ⟨rfl,rfl⟩,(z'l s).symm,_,_,_,hm b cap rfl,?_⟩)⟩
  rw[y'o]
  rw[←Zgy]
  exact FzR.refl _ _ (ZdH s)
set_option maxRecDepth 20000
attribute [local irreducible] y'0 VCg VCw VCx
abbrev G:=Option (Nat×Nat)
theorem Za9 {g:G} {e:TypeId} {esz:Nat} {l:List D} {X H:Heap}:shp g e esz l X++H=shp g e esz l (X++H):=by cases g<;>rfl
theorem v'b {g:G} {e:TypeId} {esz:Nat} {l:List D} {X:Heap} {x:Nat×HC} (h:x∈X):x∈shp g e esz l X:=by
 cases g with
 |none=>exact h
 |some p=>exact z'e _ h
theorem x'k {b cap:Nat} {e:TypeId} {esz:Nat} {l:List D} {X:Heap}:(b,HC.cells e (cap*esz) l)∈shp (some (b,cap)) e esz l X:=z'C ..
abbrev OR:=List (G×List Int)
def rgC (rs:OR):List D:=rs.map fun p=> .gs p.1 p.2.length
def rgH:OR→Heap→Heap
 |[],X=>X
 |p::rs,X=>shp p.1 3 1 (p.2.map iD) (rgH rs X)
theorem Zjm (rs:OR):(rgC rs).length=rs.length:=z'p ..
theorem ZjI: ∀(rs:OR) (X H:Heap),rgH rs X++H=rgH rs (X++H)
 |[],X,H=>rfl
 |p::rs,X,H=>by rw[rgH,rgH,Za9,ZjI rs]
theorem Zfy: ∀(rs:OR) (p:G×List Int) (X:Heap),rgH (rs++[p]) X=rgH rs (shp p.1 3 1 (p.2.map iD) X)
 |[],p,X=>rfl
 |q::rs,p,X=>by rw[z'T,rgH,rgH,Zfy rs]
theorem ZjR (g:G) (e:TypeId) (esz:Nat) (l:List D): ∀(rs:OR) (X:Heap),(shp g e esz l (rgH rs X)).Perm (rgH rs (shp g e esz l X))
 |[],X=>y'G _
 |p::rs,X=>(Ze6 _ _ _ _ _ _ _ _ _).trans (ZdP _ _ _ _ (ZjR g e esz l rs X))
noncomputable def cnt (a:Nat×HC) (H:Heap):Nat:= @List.count _ (@instBEqOfDecidableEq _ (fun _ _=>Classical.propDecidable _)) a H
theorem y'e {H H':Heap} (h: ∀a,cnt a H=cnt a H'):H.Perm H':=by
 letI:DecidableEq (Nat×HC):=fun _ _=>Classical.propDecidable _
 exact List.perm_iff_count.2 h
noncomputable def cnS (g:G) (e:TypeId) (esz:Nat) (l:List D) (a:Nat×HC):Nat:=cnt a (shp g e esz l [])
noncomputable def cn1 (x a:Nat×HC):Nat:=cnt a [x]
noncomputable def cnR (rs:OR) (a:Nat×HC):Nat:=cnt a (rgH rs [])
theorem y'a (a:Nat×HC) (X Y:Heap):cnt a (X++Y)=cnt a X+cnt a Y:=by
 unfold cnt
 letI:DecidableEq (Nat×HC):=fun _ _=>Classical.propDecidable _
 exact List.count_append
theorem y'c (a:Nat×HC):cnt a []=0:=rfl
theorem z'2 (a x:Nat×HC) (X:Heap):cnt a (x::X)=cn1 x a+cnt a X:=y'a a [x] X
theorem y'l (a:Nat×HC) (g:G) (e:TypeId) (esz:Nat) (l:List D) (X:Heap):cnt a (shp g e esz l X)=cnS g e esz l a+cnt a X:=by
 have:shp g e esz l X=shp g e esz l []++X:=by rw[Za9];rfl
 rw[this,y'a];rfl
theorem y'A (a:Nat×HC) (rs:OR) (X:Heap):cnt a (rgH rs X)=cnR rs a+cnt a X:=by
 have:rgH rs X=rgH rs []++X:=by rw[ZjI];rfl
 rw[this,y'a];rfl
theorem VCo.weak {P:Program} {n:Nat} {ops:Array Oper} {l:List Oper} {s s':St} {Q:Exit→St→Prop} (h:Weak s s') (hv:VCo P n ops l s' Q):VCo P n ops l s Q:=fun x a w hn hs=>hv x a w hn (h x a w hs)
theorem Zi0 (l:List Int) (hl:l.length≤1000000):Fun Tryz.prog 112 [z'S l] [] false (fun d H'=> ∃g:G,gOk g l.length∧d= .gs g l.length∧H'=shp g 3 1 (l.map iD) []):=
 (Zju l hl).mono fun d H' ⟨g,h1,h2,h3⟩=>⟨g,h2,h1,by rw[h3,Zgy]⟩
theorem Zm3 (ls:List (List Int)) (hls:ls.length≤1000000) (hr: ∀r,r∈ls→r.length≤1000000):Fun Tryz.prog 152 [.sl false 1 (x'j ls)] [] false
  (fun d H'=> ∃q:G×OR,(gOk q.1 ls.length∧q.2.map (·.2)=ls∧ ∀p,p∈q.2→gOk p.1 p.2.length)∧d= .gs q.1 ls.length∧H'=shp q.1 22 1 (rgC q.2) (rgH q.2 [])):=by
 refine Fun.of T [.tmp 2] Tryz.func152 rfl Tryz.ntmps152 Tryz.results152 rfl (by kernel_rfl) ?_
 repeat' first|refine vs T rfl fun K hK=>?_;(try simp (disch:=omega) only[go_sem,Nat.reduceBEq,z'W]);(refine hK _ _ ?_;clear hK K)|refine st rfl ?_|refine nl ?_
 refine VC.loop {q:Nat×G×OR//q.1≤ls.length∧q.2.2.map (·.2)=ls.take q.1∧ ∀p,p∈q.2.2→gOk p.1 p.2.length} (fun q=>⟨z'M [(3,.gs q.1.2.1 q.1.1),(6,.sl false 1 (x'j ls)),(7,iD (ls.length:Nat)),(8,iD (q.1.1:Nat))],shp q.1.2.1 22 1 (rgC q.1.2.2) (rgH q.1.2.2 [])⟩) (fun q=>ls.length-q.1.1) ⟨(0,none,[]),by simp⟩ ?_ ?_
 ·refine Weak.sub ?_
  simp[sub,upd]
 ·rintro⟨⟨k,g,rs⟩,hk,hrs,hg⟩
  dsimp only at hk hrs hg⊢
  have hrl:rs.length=k:=by
   have:=congrArg List.length hrs
   rw[z'p,z'A]at this
   omega
  have hfl:(rgC rs).length=k*1:=by rw[Zjm];omega
  rcases z'g k ls.length with hlt|hge
  ·have hd:decide ((k:Int)<(ls.length:Int))=true:=by simp;omega
   have hw:IntKind.i64.wrap ((k:Int)+1)=((k+1:Nat):Int):=by rw[w64 (by omega)];omega
   obtain⟨r,hx⟩: ∃r,ls[k]?=some r:=⟨_,z'b hlt⟩
   have hrow:(x'j ls)[k]?=some [z'S r]:=by rw[w'j,hx];rfl
   have hrr:=hr r (z'f hx)
   repeat' first|refine vs T rfl fun K hK=>?_;(try simp (disch:=omega) only[go_sem,Nat.reduceBEq,Nat.reduceMul,Nat.reduceLeDiff,hd,hw,hrow,z'W,Za9,z'N]);(first|refine hK _ _ ?_;clear hK K|refine⟨_,_,_,_,(by repeat (first|exact Sp.here|apply Sp.over)),?_,(by exact⟨rfl,rfl⟩),⟨by decide,?_⟩,fun g' hg'=>hK _ _ ?_⟩<;>clear hK K|refine⟨?_,hK _ _ ?_⟩<;>clear hK K;focus(try omega)|refine Op1.callx rfl rfl (Zi0 r hrr) rfl (fun q hq=>?_);refine hK _ _ ?_;clear hK K)|refine st rfl ?_|refine sc rfl ?_|refine nl ?_
   ·exact hfl
   ·omega
   ·refine⟨⟨(k+1,g',rs++[(q,r)]),by simp only[];omega,?_,?_⟩,?_,by simp only[];omega⟩
    ·simp only[]
     rw[z'F,hrs,y'b,hx];rfl
    ·intro p hp
     rcases y'x.1 hp with hp|hp
     ·exact hg p hp
     ·rw[x'g]at hp;subst hp;exact hq
    ·refine Weak.trans (Weak.perm ((Ze6 _ _ _ _ _ _ _ _ _).trans (ZdP _ _ _ _ (ZjR _ _ _ _ rs [])))) ?_
     refine z'G ?_ ?_
     ·simp only[]
      rw[Zfy]
      simp[rgC]
     ·simp[sub,upd]
  ·have hd:decide ((k:Int)<(ls.length:Int))=false:=by simp;omega
   obtain rfl:k=ls.length:=by omega
   rw[z'Q]at hrs
   refine v'4 (t:=3) (g:=g) rfl fun hgk=>?_
   repeat' first|refine vs T rfl fun K hK=>?_;(try simp (disch:=omega) only[go_sem,Nat.reduceBEq,hd]);(refine hK _ _ ?_;clear hK K)|refine st rfl ?_|refine sc rfl ?_|refine nl ?_
   exact z'j T (z'm _) ⟨(g,rs),⟨hgk,hrs,hg⟩,rfl,rfl⟩
theorem ZmO (ls:List (List En)) (hls:ls.length≤1000000) (hr: ∀r,r∈ls→r.length≤1000000):Fun Tryz.prog 153 [.sl false 1 (y'U ls)] [] false
  (fun d H'=> ∃g:G,gOk g ls.length∧d= .gs g ls.length∧H'=shp g 98 1 (ls.map buf) []):=by
 refine Fun.of T [.tmp 2] Tryz.func153 rfl Tryz.ntmps153 Tryz.results153 rfl (by kernel_rfl) ?_
 repeat' first|refine vs T rfl fun K hK=>?_;(try simp (disch:=omega) only[go_sem,Nat.reduceBEq,z'J]);(refine hK _ _ ?_;clear hK K)|refine st rfl ?_|refine nl ?_
 refine VC.loop {q:Nat×G//q.1≤ls.length} (fun q=>⟨z'M [(3,.gs q.1.2 q.1.1),(6,.sl false 1 (y'U ls)),(7,iD (ls.length:Nat)),(8,iD (q.1.1:Nat))],shp q.1.2 98 1 ((ls.take q.1.1).map buf) []⟩) (fun q=>ls.length-q.1.1) ⟨(0,none),by simp⟩ ?_ ?_
 ·refine Weak.sub ?_
  simp[sub,upd]
 ·rintro⟨⟨k,g⟩,hk⟩
  dsimp only at hk⊢
  have hfl:((ls.take k).map buf).length=k*1:=by rw[z'p,z'A];omega
  rcases z'g k ls.length with hlt|hge
  ·have hd:decide ((k:Int)<(ls.length:Int))=true:=by simp;omega
   have hw:IntKind.i64.wrap ((k:Int)+1)=((k+1:Nat):Int):=by rw[w64 (by omega)];omega
   obtain⟨r,hx⟩: ∃r,ls[k]?=some r:=⟨_,z'b hlt⟩
   have hrow:(y'U ls)[k]?=some [buf r]:=by rw[y'P,hx];rfl
   have hrr:=hr r (z'f hx)
   repeat' first|refine vs T rfl fun K hK=>?_;(try simp (disch:=omega) only[go_sem,Nat.reduceBEq,Nat.reduceMul,Nat.reduceLeDiff,hd,hw,hrow,z'J]);(first|refine hK _ _ ?_;clear hK K|refine⟨_,_,_,_,(by repeat (exact Sp.here)),?_,(by exact⟨rfl,rfl⟩),⟨by decide,?_⟩,fun g' hg'=>hK _ _ ?_⟩<;>clear hK K|refine⟨?_,hK _ _ ?_⟩<;>clear hK K;focus(try omega)|refine Op1.callp rfl rfl (Zmi r hrr) rfl ?_;refine hK _ _ ?_;clear hK K)|refine st rfl ?_|refine sc rfl ?_|refine nl ?_
   ·exact hfl
   ·omega
   ·refine⟨⟨(k+1,g'),by simp only[];omega⟩,z'G ?_ ?_,by simp only[];omega⟩
    ·simp only[]
     rw[y'b,hx]
     simp
    ·simp[sub,upd]
  ·have hd:decide ((k:Int)<(ls.length:Int))=false:=by simp;omega
   obtain rfl:k=ls.length:=by omega
   refine v'4 (t:=3) (g:=g) rfl fun hgk=>?_
   repeat' first|refine vs T rfl fun K hK=>?_;(try simp (disch:=omega) only[go_sem,Nat.reduceBEq,hd]);(refine hK _ _ ?_;clear hK K)|refine st rfl ?_|refine sc rfl ?_|refine nl ?_
   refine z'j T (z'm _) ⟨g,hgk,rfl,?_⟩
   rw[z'Q]
structure OC where
 gp:G
 gr:G
 gm:G
 gb:G
 rs:OR
structure OC.ok (q:OC) (c:Cf):Prop where
 pc:gOk q.gp c.pc.length
 gr:gOk q.gr c.regs.length
 mem:gOk q.gm c.mem.length
 bufs:gOk q.gb c.bufs.length
 rows:q.rs.map (·.2)=c.regs
 row: ∀p,p∈q.rs→gOk p.1 p.2.length
def OC.cs (q:OC) (c:Cf):List D:=[.gs q.gp c.pc.length,.gs q.gr c.regs.length,.gs q.gm c.mem.length,.gs q.gb c.bufs.length]
def OC.h (q:OC) (c:Cf) (X:Heap):Heap:=shp q.gp 3 1 (c.pc.map iD) (shp q.gr 22 1 (rgC q.rs) (shp q.gm 3 1 (c.mem.map iD) (shp q.gb 98 1 (c.bufs.map buf) (rgH q.rs X))))
theorem Zib {H:Heap}: ∀(rs:OR),(∀p,p∈rs→gOk p.1 p.2.length)→(∀x,x∈rgH rs []→x∈H)→FzR H 1 (x'j (rs.map (·.2))) (rgC rs)
 |[],_,_=>trivial
 |p::rs,hg,hm=>by
  refine⟨rfl,⟨_,_,rfl,x'4 (e:=3) (hg p (z'C ..)) (fun b cap hb=>hm _ ?_),trivial⟩,?_⟩
  ·rw[rgH,hb];exact x'k
  ·exact Zib rs (fun p hp=>hg p (z'e _ hp)) (fun x hx=>hm x (v'b hx))
theorem Zi3 {H:Heap}: ∀(l:List (List En)),FzR H 1 (y'U l) (l.map buf)
 |[]=>trivial
 |b::l=>⟨rfl,⟨_,_,rfl,Fz.refl _ _,trivial⟩,Zi3 l⟩
theorem ZaS {H:Heap} {g:G} {e:TypeId} {esz:Nat} {l:List D} {rows:List (List D)} {n:Nat} (hn:n=rows.length) (hg:gOk g n) (hm: ∀b cap,g=some (b,cap)→(b,HC.cells e (cap*esz) l)∈H) (hr:FzR H esz rows l):
  Fz H (.sl false esz rows) (.gs g n):=by
 cases g with
 |none=>
  have h0:n=0:=hg
  subst h0
  have:rows=[]:=z'P hn.symm
  subst this
  exact y'v
 |some p=>
  obtain⟨b,cap⟩:=p
  exact .inr ⟨rfl,.inr (.inr ⟨b,0,_,cap,.inl ⟨rfl,rfl⟩,hn,_,_,_,hm b cap rfl,by rw[y'o];exact hr⟩)⟩
theorem OC.fzL {q:OC} {c:Cf} (h:q.ok c) {H:Heap} {X:Heap} (hm: ∀x,x∈q.h c []→x∈H):FzL H (cfC c) (q.cs c):=by
 have m1: ∀x,x∈shp q.gr 22 1 (rgC q.rs) (shp q.gm 3 1 (c.mem.map iD) (shp q.gb 98 1 (c.bufs.map buf) (rgH q.rs [])))→x∈H:=fun x hx=>hm x (v'b hx)
 have m2: ∀x,x∈shp q.gm 3 1 (c.mem.map iD) (shp q.gb 98 1 (c.bufs.map buf) (rgH q.rs []))→x∈H:=fun x hx=>m1 x (v'b hx)
 have m3: ∀x,x∈shp q.gb 98 1 (c.bufs.map buf) (rgH q.rs [])→x∈H:=fun x hx=>m2 x (v'b hx)
 have m4: ∀x,x∈rgH q.rs []→x∈H:=fun x hx=>m3 x (v'b hx)
 refine z'E (x'4 (e:=3) h.pc fun b cap hb=>hm _ (by rw[OC.h,hb];exact x'k)) (z'E ?_ (z'E (x'4 (e:=3) h.mem fun b cap hb=>m2 _ (by rw[hb];exact x'k)) (z'E ?_ w't)))
 ·refine ZaS (e:=22) (l:=rgC q.rs) (z'W _).symm h.gr (fun b cap hb=>m1 _ (by rw[hb];exact x'k)) ?_
  rw[←h.rows]
  exact Zib q.rs h.row m4
 ·exact ZaS (e:=98) (l:=c.bufs.map buf) (z'J _).symm h.bufs (fun b cap hb=>m3 _ (by rw[hb];exact x'k)) (Zi3 c.bufs)
theorem Fun.perm {P:Program} {f:FuncId} {args:List D} {H:Heap} {fr:Bool} {Φ Ψ:D→Heap→Prop} (h:Fun P f args H fr Φ) (hk: ∀d H',Φ d H'→ ∃H'',H'.Perm H''∧Ψ d H''):Fun P f args H fr Ψ:=
 ⟨h.1,fun w L0 vs hi hr=>(h.2 w L0 vs hi hr).mono fun e w' ⟨v,he,d,H',h1,h2,h3,h4⟩=>by
  obtain⟨H'',hp,hψ⟩:=hk d H' h1
  exact⟨v,he,d,H'',hψ,by rw[Zbz hp];exact h2,h3.perm hp,h4.perm (.refl _) hp⟩⟩
theorem Zfb (c:Cf) (hc:OkC c):Fun Tryz.prog 114 [.agg (cfC c)] [] false (fun d H'=> ∃q:OC,q.ok c∧d= .agg (q.cs c)∧H'=q.h c []):=by
 have c1:=Zi0 c.pc (by have:=hc.pc;omega)
 have c2:=Zm3 c.regs (by have:=hc.regs;omega) (fun r hr=>by have:=hc.row r hr;omega)
 have c3:=Zi0 c.mem (by have:=hc.mem;omega)
 have c4:=ZmO c.bufs (by have:=hc.bufs;omega) (fun r hr=>by have:=hc.buf r hr;omega)
 refine Fun.of T [.cell 2 43] Tryz.func114 rfl Tryz.ntmps114 Tryz.results114 rfl (by kernel_rfl) ?_
 repeat' first|refine vb rfl rfl rfl rfl ?_|refine dr (id:=1) T 11 (by kernel_rfl) ?_|refine VCg.nil T ?_;simp only[w'b,WB]|apply VCg.step T rfl rfl;focus((try simp (disch:=omega) only[go_sem,Nat.reduceBEq]);(exact rfl))|refine VCg.ownx T rfl rfl rfl rfl (c1) rfl ?_|refine VCg.ownx T rfl rfl rfl rfl (c2) rfl ?_|refine VCg.ownx T rfl rfl rfl rfl (c3) rfl ?_|refine vs T rfl fun K hK=>?_;(try simp (disch:=omega) only[go_sem,Nat.reduceAdd]);(intro bq hbq;(try simp only[HB]at hbq);refine hK _ _ ?_;clear hK K)|refine st rfl ?_|refine nl ?_
 rintro _ _ ⟨gp,hgp,rfl,rfl⟩ hap1 _ _ ⟨⟨gr,rs⟩,⟨hgr,hrs,hrow⟩,rfl,rfl⟩ hap2 _ _ ⟨gm,hgm,rfl,rfl⟩ hap3
 refine vt rfl fun K hK=>?_
 refine Op1.callx rfl rfl c4 rfl (fun gb hgb=>?_)
 refine hK _ _ ?_
 clear hK K
 simp only[updO]
 refine vo ?_
 refine VCo.weak (Weak.perm (H':=(bq,.cells 43 4 [.gs none 0,.gs none 0,.gs none 0,.gs none 0])::(OC.mk gp gr gm gb rs).h c []) (y'e fun a=>by simp only[OC.h,y'l,y'A,z'2,y'a,y'c];omega)) ?_
 repeat' first|refine vs T rfl fun K hK=>?_;(try simp (disch:=omega) only[go_sem,Nat.reduceBEq,Nat.reduceAdd,Nat.reduceLeDiff]);(refine hK _ _ ?_;clear hK K)|refine st rfl ?_|refine nl ?_|refine ov ?_
 refine ZmA T rfl hget_eq rfl rfl rfl (z'9 _ _) ⟨⟨gp,gr,gm,gb,rs⟩,⟨hgp,hgr,hgm,hgb,hrs,hrow⟩,rfl,rfl⟩
theorem ZeL {H X:Heap} (h:(H++X).blocks.Nodup): ∀b,b∈H.blocks→b∉X.blocks:=by
 simp only[Heap.blocks,z'F]at h
 obtain⟨_,_,h3⟩:=x'J.1 h
 exact fun b hp hr=>h3 b hp b hr rfl
theorem Weak.fzs {env:Nat→D} {H X:Heap} {g:G} {e:TypeId} {esz:Nat} {rows:List (List D)} {t:Nat} (hp:H.Perm (shp g e esz rows.flatten X)) (hn:env t= .gs g rows.length) (hr: ∀r,r∈rows→r.length=esz):
  Weak ⟨env,H⟩ ⟨upd env t (.sl false esz rows),X⟩:=fun x a w h=>by
 have h2:=Weak.perm hp x a w h
 have hg:gOk g rows.length:=by
  have:=h.env t
  simp only at this
  rw[hn]at this
  exact this.2
 have hnd:=h2.inv.nodup
 have hsplit:shp g e esz rows.flatten X=shp g e esz rows.flatten []++X:=by rw[Za9];rfl
 refine Weak.fz (H1:=shp g e esz rows.flatten []) ?_ ?_ ?_ x a w h2
 ·rw[hn]
  exact ZaS (e:=e) rfl hg (fun b cap hb=>by rw[hb];exact x'k) (FzR.refl _ _ hr)
 ·intro b c hm
  have hm':(b,c)∈shp g e esz rows.flatten X:=by rw[hsplit];exact y'O _ hm
  refine⟨hm',?_⟩
  simp only at hnd
  rw[hsplit]at hnd
  exact ZeL hnd b (z'y.2 ⟨_,hm,rfl⟩)
 ·show X.Sublist (shp g e esz rows.flatten X)
  rw[hsplit]
  exact List.sublist_append_right _ _
theorem FzL.length {H:Heap}: ∀{l' l:List D},FzL H l' l→l'.length=l.length
 |[],_,h=>by cases h;rfl
 |_::_,_,h=>by
  obtain⟨d,ds,rfl,_,h2⟩:=h
  rw[z'D,z'D,FzL.length h2]
theorem Weak.fzc {env:Nat→D} {b n:Nat} {e:TypeId} {l l':List D} {X H1:Heap} (h:FzL H1 l' l):Weak ⟨env,(b,.cells e n l)::(X++H1)⟩ ⟨env,(b,.cells e n l')::X⟩:=fun x a w hs=>by
 have hsub:((b,HC.cells e n l)::X).Sublist ((b,HC.cells e n l)::(X++H1)):=(List.sublist_append_left _ _).cons_cons _
 have h1:=Weak.heap hsub x a w hs
 have hnd:=hs.inv.nodup
 have hnot: ∀k,k∈H1.blocks→k∉Heap.blocks ((b,HC.cells e n l)::X):=fun k hk hm=>by
  simp only at hnd
  have:((b,HC.cells e n l)::(X++H1))=((b,HC.cells e n l)::X)++H1:=rfl
  rw[this]at hnd
  exact ZeL hnd k hm hk
 have hlv:live ((b,HC.cells e n l')::X) x.L0=live ((b,HC.cells e n l)::X) x.L0:=rfl
 refine{env:=fun t=>by rw[hlv];exact h1.env t,inv:=?_,evo:=?_,defers:=h1.defers,size:=h1.size}
 ·refine{rel:=fun k c hm=>?_,nodup:=h1.inv.nodup,apart:=h1.inv.apart,old:=h1.inv.old}
  rw[hlv]
  rcases z'L.1 hm with hm|hm
  ·cases hm
   obtain⟨q1,arr,q2,q3,q4⟩:=hs.inv.rel b _ (z'C ..)
   refine⟨FzL.one h q1,arr,q2,q3,?_⟩
   rw[FzL.length h]
   refine RelL.fz (H1:=H1) ⟨hs.inv,fun k c hk=>⟨z'e _ (y'5 _ hk),fun hl=>?_⟩,fun k _ hl=>hl.imp id (SubH.blocks hsub k)⟩ _ _ _ h q4
   rcases hl with hl|hl
   ·exact hs.inv.apart k (z'y.2 ⟨(k,c),z'e _ (y'5 _ hk),rfl⟩) hl
   ·exact hnot k (z'y.2 ⟨(k,c),hk,rfl⟩) hl
  ·exact h1.inv.rel k c (z'e _ hm)
 ·exact⟨h1.evo.os,h1.evo.tape,h1.evo.output,h1.evo.size,h1.evo.block,h1.evo.fresh⟩
theorem FzL.append {H:Heap}: ∀{l' l m' m:List D},FzL H l' l→FzL H m' m→FzL H (l'++m') (l++m)
 |[],_,_,_,h,h2=>by cases h;exact h2
 |_::_,_,_,_,h,h2=>by
  obtain⟨d,ds,rfl,q1,q2⟩:=h
  exact⟨d,ds++_,rfl,q1,FzL.append q2 h2⟩
theorem y'g {b cap:Nat} {e:TypeId} {esz:Nat} {l:List D} {X:Heap}:shp (some (b,cap)) e esz l X=(b,.cells e (cap*esz) l)::X:=rfl
theorem w'6 (c:Cf) (hc:OkC c):Fun Tryz.prog 101 [.agg (cfC c)] [] false (fun d H'=> ∃q:OC,q.ok c∧d= .agg (q.cs c)∧H'=q.h c []):=by
 have kp:=hc.pc
 have kr:=hc.regs
 have km:=hc.mem
 have kb:=hc.bufs
 refine Fun.of T [.cell 2 43] Tryz.func101 rfl Tryz.ntmps101 Tryz.results101 rfl (by kernel_rfl) ?_
 repeat' first|refine vb rfl rfl rfl rfl ?_|refine vs T rfl fun K hK=>?_;(try simp (disch:=omega) only[go_sem,Nat.reduceBEq,Nat.reduceAdd,Nat.reduceLeDiff,Zgy,z'l,z'N]);(first|refine hK _ _ ?_;clear hK K|refine⟨_,_,_,_,(by repeat (first|apply Sp.cons|exact Sp.nil)),?_,(by exact⟨rfl,rfl⟩),⟨by decide,?_⟩,fun g' hg'=>hK _ _ ?_⟩<;>clear hK K|intro bq hbq;(try simp only[HB]at hbq);refine hK _ _ ?_;clear hK K)|refine st rfl ?_|refine nl ?_
 ·rfl
 ·omega
 ·rfl
 ·omega
 rename_i b2 hb2 gp hgp
 revert g'
 intro gm hgm
 refine VC.loop {p:Nat×G×OR//(p.1≤c.regs.length∧gOk p.2.1 p.1)∧p.2.2.map (·.2)=c.regs.take p.1∧ ∀x,x∈p.2.2→gOk x.1 x.2.length} (fun p=>⟨z'M [(1,.pt (cfC c)),(2,.is (.pointer (some ⟨b2,0,none⟩))),(3,.is (.pointer (some ⟨bq,0,none⟩))),(4,iD (p.1.1:Nat))],(bq,.cells 43 4 [.gs gp c.pc.length,.gs p.1.2.1 p.1.1,.gs gm c.mem.length,.gs none 0])::(b2,.cells 43 4 [.gs none 0,.gs none 0,.gs none 0,.gs none 0])::shp p.1.2.1 22 1 (rgC p.1.2.2) (rgH p.1.2.2 (shp gm 3 1 (c.mem.map iD) (shp gp 3 1 (c.pc.map iD) [])))⟩) (fun p=>c.regs.length-p.1.1) ⟨(0,none,[]),by simp[gOk]⟩ ?_ ?_
 ·refine Weak.sub ?_
  simp[sub,upd]
 rintro⟨⟨k,gr,rs⟩,⟨hk,hgr⟩,hrs,hg⟩
 dsimp only at hk hgr hrs hg⊢
 have hrl:rs.length=k:=by
  have:=congrArg List.length hrs
  rw[z'p,z'A]at this
  omega
 have hfl:(rgC rs).length=k*1:=by rw[Zjm];omega
 rcases z'g k c.regs.length with hlt|hge
 ·have hd:decide ((k:Int)<(c.regs.length:Int))=true:=by simp;omega
  have hw:IntKind.i64.wrap ((k:Int)+1)=((k+1:Nat):Int):=by rw[w64 (by omega)];omega
  obtain⟨r,hx⟩: ∃r,c.regs[k]?=some r:=⟨_,z'b hlt⟩
  have hrow:(x'j c.regs)[k]?=some [z'S r]:=by rw[w'j,hx];rfl
  have hrr:=hc.row r (z'f hx)
  repeat' first|refine vs T rfl fun K hK=>?_;(try simp (disch:=omega) only[go_sem,Nat.reduceBEq,Nat.reduceAdd,Nat.reduceMul,Nat.reduceLeDiff,hd,hw,hrow,z'W,Zgy,z'l,z'N]);(first|refine hK _ _ ?_;clear hK K|refine⟨_,_,_,_,(by repeat (first|exact Sp.here|apply Sp.cons|exact Sp.nil|apply Sp.over)),?_,(by exact⟨rfl,rfl⟩),⟨by decide,?_⟩,fun g' hg'=>hK _ _ ?_⟩<;>clear hK K|refine⟨?_,hK _ _ ?_⟩<;>clear hK K;focus(try omega))|refine st rfl ?_|refine sc rfl ?_|refine nl ?_
  ·rfl
  ·omega
  ·exact hfl
  ·omega
  rename_i q hq
  refine⟨⟨(k+1,g',rs++[(q,r)]),⟨by simp only[];omega,hg'⟩,?_,?_⟩,?_,by simp only[];omega⟩
  ·simp only[]
   rw[z'F,hrs,y'b,hx];rfl
  ·intro p hp
   rcases y'x.1 hp with hp|hp
   ·exact hg p hp
   ·rw[x'g]at hp;subst hp;exact hq
  ·have hrc:rgC (rs++[(q,r)])=rgC rs++[.gs q r.length]:=by simp[rgC]
   refine Weak.trans (Weak.perm (H':=(bq,.cells 43 4 [.gs gp c.pc.length,.gs g' (k+1),.gs gm c.mem.length,.gs none 0])::(b2,.cells 43 4 [.gs none 0,.gs none 0,.gs none 0,.gs none 0])::shp g' 22 1 (rgC (rs++[(q,r)])) (rgH (rs++[(q,r)]) (shp gm 3 1 (c.mem.map iD) (shp gp 3 1 (c.pc.map iD) [])))) (y'e fun a=>by rw[hrc];simp only[Zfy,y'l,y'A,z'2,y'a,y'c];omega)) (Weak.sub ?_)
   simp[sub,upd]
 have hd:decide ((k:Int)<(c.regs.length:Int))=false:=by simp;omega
 obtain rfl:k=c.regs.length:=by omega
 rw[z'Q]at hrs
 repeat' first|refine vs T rfl fun K hK=>?_;(try simp (disch:=omega) only[go_sem,Nat.reduceBEq,hd,z'W]);(refine hK _ _ ?_;clear hK K)|refine st rfl ?_|refine sc rfl ?_|refine nl ?_
 refine VC.loop {p:Nat×G//p.1≤c.bufs.length∧gOk p.2 p.1} (fun p=>⟨z'M [(1,.pt (cfC c)),(2,.is (.pointer (some ⟨b2,0,none⟩))),(3,.is (.pointer (some ⟨bq,0,none⟩))),(6,iD (p.1.1:Nat))],(bq,.cells 43 4 [.gs gp c.pc.length,.gs gr c.regs.length,.gs gm c.mem.length,.gs p.1.2 p.1.1])::(b2,.cells 43 4 [.gs none 0,.gs none 0,.gs none 0,.gs none 0])::shp p.1.2 98 1 ((c.bufs.take p.1.1).map buf) (shp gr 22 1 (rgC rs) (rgH rs (shp gm 3 1 (c.mem.map iD) (shp gp 3 1 (c.pc.map iD) []))))⟩) (fun p=>c.bufs.length-p.1.1) ⟨(0,none),by simp[gOk]⟩ ?_ ?_
 ·refine Weak.sub ?_
  simp[sub,upd]
 rintro⟨⟨j,gb⟩,hj,hgb⟩
 dsimp only at hj hgb⊢
 have hfl2:((c.bufs.take j).map buf).length=j*1:=by rw[z'p,z'A];omega
 rcases z'g j c.bufs.length with hlt|hge
 ·have hd:decide ((j:Int)<(c.bufs.length:Int))=true:=by simp;omega
  have hw:IntKind.i64.wrap ((j:Int)+1)=((j+1:Nat):Int):=by rw[w64 (by omega)];omega
  obtain⟨r,hx⟩: ∃r,c.bufs[j]?=some r:=⟨_,z'b hlt⟩
  have hrow:(y'U c.bufs)[j]?=some [buf r]:=by rw[y'P,hx];rfl
  have hrr:=hc.buf r (z'f hx)
  repeat' first|refine vs T rfl fun K hK=>?_;(try simp (disch:=omega) only[go_sem,Nat.reduceBEq,Nat.reduceAdd,Nat.reduceMul,Nat.reduceLeDiff,hd,hw,hrow,z'J,z't,z'N]);(first|refine hK _ _ ?_;clear hK K|refine⟨_,_,_,_,(by repeat (first|exact Sp.here|apply Sp.cons|apply Sp.over)),?_,(by exact⟨rfl,rfl⟩),⟨by decide,?_⟩,fun g' hg'=>hK _ _ ?_⟩<;>clear hK K|refine⟨_,_,_,_,(by repeat (first|apply Sp.cons|exact Sp.nil)),?_,(by exact⟨rfl,rfl⟩),?_,fun g' hg'=>hK _ _ ?_⟩<;>clear hK K|refine⟨?_,hK _ _ ?_⟩<;>clear hK K;focus(try omega))|refine st rfl ?_|refine sc rfl ?_|refine nl ?_
  ·rfl
  ·omega
  ·exact hfl2
  ·omega
  rename_i q hq
  rcases g' with _|⟨bb,cap⟩
  ·have:j+1=0:=hg'
   omega
  have htk:(c.bufs.take (j+1)).map buf=(c.bufs.take j).map buf++[buf r]:=by
   rw[y'b,hx]
   simp
  refine⟨⟨(j+1,some (bb,cap)),by simp only[];omega,hg'⟩,?_,by simp only[];omega⟩
  refine Weak.trans (Weak.perm (H':=(bb,.cells 98 (cap*1) ((c.bufs.take j).map buf++[.gs q r.length]))::(((bq,.cells 43 4 [.gs gp c.pc.length,.gs gr c.regs.length,.gs gm c.mem.length,.gs (some (bb,cap)) (j+1)])::(b2,.cells 43 4 [.gs none 0,.gs none 0,.gs none 0,.gs none 0])::(shp gr 22 1 (rgC rs) (rgH rs (shp gm 3 1 (c.mem.map iD) (shp gp 3 1 (c.pc.map iD) [])))))++shp q 127 2 (eRs r).flatten []))
   (y'e fun a=>by simp only[y'g,y'l,y'A,z'2,y'a,y'c];omega)) ?_
  refine Weak.trans (Weak.fzc (l':=(c.bufs.take j).map buf++[buf r]) (FzL.append (FzL.refl _ _) (z'E (Za4 hq (z't r) (v'u r)) w't))) ?_
  refine Weak.trans (Weak.perm (H':=(bq,.cells 43 4 [.gs gp c.pc.length,.gs gr c.regs.length,.gs gm c.mem.length,.gs (some (bb,cap)) (j+1)])::(b2,.cells 43 4 [.gs none 0,.gs none 0,.gs none 0,.gs none 0])::shp (some (bb,cap)) 98 1 ((c.bufs.take (j+1)).map buf) (shp gr 22 1 (rgC rs) (rgH rs (shp gm 3 1 (c.mem.map iD) (shp gp 3 1 (c.pc.map iD) [])))))
   (y'e fun a=>by rw[htk];simp only[y'g,y'l,y'A,z'2,y'a,y'c];omega)) (Weak.sub ?_)
  simp[sub,upd]
 have hd:decide ((j:Int)<(c.bufs.length:Int))=false:=by simp;omega
 obtain rfl:j=c.bufs.length:=by omega
 rw[z'Q]
 refine VC.weak (Weak.perm (H':=(bq,.cells 43 4 [.gs gp c.pc.length,.gs gr c.regs.length,.gs gm c.mem.length,.gs gb c.bufs.length])::(b2,.cells 43 4 [.gs none 0,.gs none 0,.gs none 0,.gs none 0])::(OC.mk gp gr gm gb rs).h c []) (y'e fun a=>by simp only[OC.h,y'l,y'A,z'2,y'a,y'c];omega)) ?_
 have hne: ¬bq=b2:=hbq
 repeat' first|refine vs T rfl fun K hK=>?_;(try simp (disch:=omega) only[go_sem,Nat.reduceBEq,Nat.reduceAdd,Nat.reduceLeDiff,hd,z'J,OC.h]);(refine hK _ _ ?_;clear hK K)|refine st rfl ?_|refine sc rfl ?_|refine nl ?_
 refine ZmA T rfl (by(simp (disch:=omega) only[hget_ne,hget_eq]);rfl) rfl rfl rfl ((z'9 _ _).trans (z'9 _ _)) ⟨⟨gp,gr,gm,gb,rs⟩,⟨hgp,hgr,hgm,hgb,hrs,hg⟩,rfl,rfl⟩
end Go.Proofs.YtomcmfbpmkklmaaGreat
