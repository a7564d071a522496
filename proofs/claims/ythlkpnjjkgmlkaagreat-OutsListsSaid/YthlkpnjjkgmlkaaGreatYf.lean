/- The plain law of code's value. No condition. -/
import Derived.Test.YthlkpnjjkgmlkaaGreatYla
import Derived.Test.YthlkpnjjkgmlkaaGreatXe
import Derived.Test.YthlkpnjjkgmlkaaGreatK2
namespace Go.Proofs.YthlkpnjjkgmlkaaGreat
set_option maxHeartbeats 16000000
set_option linter.unusedSimpArgs false
set_option linter.unusedVariables false
open Go Go.Proofs Go.Vc
def v'b (md:Int) (own:List Int) (all:List (List Int)) (mem:List Int) (s:List Int) (x:Opc):List Int:=
 if x.1=1 then s++[x.2.1.tmod md]else if x.1=2 then s++[own.getD x.2.1.toNat 0]else if x.1=3 then s++[mem.getD x.2.1.toNat 0]else if x.1=4 then s++[(all.getD x.2.2.toNat []).getD x.2.1.toNat 0]
 else if x.1=5 then s.set (s.length-1) (tI (s.getD (s.length-1) 0 == 0))else(s.set (s.length-2) (w'V x.1 (s.getD (s.length-2) 0) (s.getD (s.length-1) 0) md)).take (s.length-1)
def Zlt (md:Int) (own:List Int) (all:List (List Int)) (mem:List Int) (l:List Opc) (s:List Int):List Int:=l.foldl (v'b md own all mem) s
def w'f (all:List (List Int)):List Int:=all.map fun r=>(r.length:Int)
def ZbT (l:List Opc) (md:Int) (own:List Int) (all:List (List Int)) (mem:List Int):Bool:=
 decide (2≤md)&&decide (md≤16)&&y'E own md&&y'E mem md&&(all.all fun r=>y'E r md)&&v'V l (w'f all) own.length mem.length
def ZfI (l:List Opc) (md:Int) (own:List Int) (all:List (List Int)) (mem:List Int):Int:=match ZbT l md own all mem with|true=>(Zlt md own all mem l []).getD 0 0|false=>0
theorem y'1 {n m:Int}:inB n m=true↔0≤n∧n<m:=by simp[inB]
theorem ZlO {s t:List Int} {md:Int}:y'E (s++t) md=(y'E s md&&y'E t md):=by simp[y'E]
theorem Zd9 {s:List Int} {md:Int} (h:y'E s md=true) {i:Nat} {n:Int} (hn:s[i]?=some n):0≤n∧n<md:=by
 unfold y'E at h
 rw[z'o]at h
 exact y'1.1 (h n (z'l hn))
theorem v'Z {s:List Int} {md:Int} (h:y'E s md=true) (hm:0<md) (i:Nat):0≤s.getD i 0∧s.getD i 0<md:=by
 rw[z'd]
 cases hq:s[i]? with
 |none=>exact⟨Int.le_refl _,hm⟩
 |some n=>exact Zd9 h hq
theorem Zog {s:List Int} {md:Int} (h:y'E s md=true) (k:Nat):y'E (s.take k) md=true:=by
 unfold y'E at*
 rw[z'o]at*
 exact fun x hx=>h x (x'L hx)
theorem Zea {s:List Int} {md:Int} (h:y'E s md=true) (k:Nat) {v:Int} (hv:0≤v∧v<md):y'E (s.set k v) md=true:=by
 unfold y'E at*
 rw[z'o]at*
 intro x hx
 rcases List.mem_or_eq_of_mem_set hx with h'|h'
 ·exact h x h'
 ·subst h';exact y'1.2 hv
theorem ZjK (b:Bool):0≤tI b∧tI b≤1:=by cases b<;>decide
theorem Zgc {a md:Int} (h0:0≤a) (hm:0<md):0≤a.tmod md∧a.tmod md<md:=by
 rw[w'y h0]
 exact⟨Int.emod_nonneg _ (by omega),Int.emod_lt_of_pos _ hm⟩
theorem ZsY {op a b md:Int} (hm:2≤md) (ha:0≤a∧a<md) (hb:0≤b∧b<md):0≤w'V op a b md∧w'V op a b md<md:=by
 have t: ∀c:Bool,0≤tI c∧tI c<md:=fun c=>⟨(ZjK c).1,by have:=(ZjK c).2;omega⟩
 unfold w'V
 repeat' split
 all_goals first
  |exact t _
  |exact Zgc (by omega) (by omega)
  |exact Zgc (Int.mul_nonneg ha.1 hb.1) (by omega)
theorem ZeI {op n:Int} (h:1≤op∧op≤4):x'b op n=some (n+1):=by simp[x'b,h]
theorem Zn2 {md:Int} (hm:2≤md) {own mem s:List Int} {all:List (List Int)} {x:Opc} (ho:x'o (w'f all) own.length mem.length x=true) (hown:y'E own md=true) (hmem:y'E mem md=true)
  (hall:(all.all fun r=>y'E r md)=true) (hs:y'E s md=true) {n':Int} (hl:x'b x.1 s.length=some n'):y'E (v'b md own all mem s x) md=true∧((v'b md own all mem s x).length:Int)=n':=by
 have one: ∀v,0≤v∧v<md→y'E (s++[v]) md=true:=fun v hv=>by
  rw[ZlO,hs]
  simp[y'E,y'1,inB,hv]
 have len1: ∀v:Int,((s++[v]).length:Int)=s.length+1:=fun v=>by simp
 unfold v'b
 by_cases h1:x.1=1
 ·rw[if_pos h1]
  rw[ZeI (by omega)]at hl;cases hl
  have h0:0≤x.2.1:=by
   have:inB x.2.1 10000=true:=by simpa[x'o,h1]using ho
   exact(y'1.1 this).1
  exact⟨one _ (Zgc h0 (by omega)),len1 _⟩
 rw[if_neg h1]
 by_cases h2:x.1=2
 ·rw[if_pos h2]
  rw[ZeI (by omega)]at hl;cases hl
  exact⟨one _ (v'Z hown (by omega) _),len1 _⟩
 rw[if_neg h2]
 by_cases h3:x.1=3
 ·rw[if_pos h3]
  rw[ZeI (by omega)]at hl;cases hl
  exact⟨one _ (v'Z hmem (by omega) _),len1 _⟩
 rw[if_neg h3]
 by_cases h4:x.1=4
 ·rw[if_pos h4]
  rw[ZeI (by omega)]at hl;cases hl
  refine⟨one _ ?_,len1 _⟩
  rw[z'd (l:=all)]
  cases hq:all[x.2.2.toNat]? with
  |none=>simp;omega
  |some r=>
   rw[z'o]at hall
   exact v'Z (hall r (z'l hq)) (by omega) _
 rw[if_neg h4]
 by_cases h5:x.1=5
 ·rw[if_pos h5]
  have:x'b x.1 s.length=some (s.length:Int)∨x'b x.1 s.length=none:=by
   unfold x'b
   rw[if_neg (by omega)]
   split
   ·exact .inl rfl
   ·rw[if_neg (by omega)];exact .inr rfl
  rcases this with h|h<;>rw[h]at hl<;>cases hl
  exact⟨Zea hs _ ⟨(ZjK _).1,by have:=(ZjK (s.getD (s.length-1) 0 == 0)).2;omega⟩,by simp⟩
 rw[if_neg h5]
 have:(2≤(s.length:Int)∧x'b x.1 s.length=some ((s.length:Int)-1))∨x'b x.1 s.length=none:=by
  unfold x'b
  by_cases hq:1≤x.1∧x.1≤4
  ·omega
  rw[if_neg hq,if_neg (by omega)]
  split
  ·rename_i h;exact .inl ⟨h.2,rfl⟩
  ·exact .inr rfl
 rcases this with⟨h2',h⟩|h<;>rw[h]at hl<;>cases hl
 refine⟨Zog (Zea hs _ (ZsY hm (v'Z hs (by omega) _) (v'Z hs (by omega) _))) _,?_⟩
 rw[z'y,y't]
 omega
structure RunI (md:Int) (own:List Int) (all:List (List Int)) (mem:List Int) (l:List Opc) (k:Nat) (s:List Int):Prop where
 le:k≤l.length
 len:s.length≤k
 inm:y'E s md=true
 ok: ∃most,oneL (v'E (l.drop k) s.length most)=true
 run:Zlt md own all mem (l.drop k) s=Zlt md own all mem l []
theorem RunI.zero {md:Int} {own mem:List Int} {all:List (List Int)} {l:List Opc} (h:oneL (v'E l 0 0)=true):RunI md own all mem l 0 []:=
 ⟨y'f _,z'f _,rfl,⟨0,by simpa using h⟩,by simp⟩
theorem RunI.next {md:Int} (hm:2≤md) {own mem s:List Int} {all:List (List Int)} {l:List Opc} {k:Nat} {x:Opc} (h:RunI md own all mem l k s) (hx:l[k]?=some x) (ho:x'o (w'f all) own.length mem.length x=true) (hown:y'E own md=true) (hmem:y'E mem md=true)
  (hall:(all.all fun r=>y'E r md)=true):(∃n',x'b x.1 s.length=some n')∧RunI md own all mem l (k+1) (v'b md own all mem s x):=by
 have hlt:=(z'g.1 hx).1
 have hdr:l.drop k=x::l.drop (k+1):=by rw[y'H hlt];congr 1;exact y'n ((z'b hlt).symm.trans hx)
 obtain⟨most,hok⟩:=h.ok
 rw[hdr,ZhM]at hok
 cases hs:x'b x.1 s.length with
 |none=>rw[hs]at hok;cases hok
 |some n'=>
  rw[hs]at hok
  obtain⟨h1,h2⟩:=Zn2 hm ho hown hmem hall h.inm hs
  refine⟨⟨n',rfl⟩,by omega,?_,h1,⟨max most n',by rw[h2];exact hok⟩,?_⟩
  ·have:=h.len
   have hn:n'≤s.length+1:=by
    unfold x'b at hs
    repeat' split at hs
    all_goals first|(cases hs;omega)|cases hs
   omega
  ·rw[←h.run,hdr];rfl
theorem RunI.last {md:Int} {own mem s:List Int} {all:List (List Int)} {l:List Opc} {k:Nat} (h:RunI md own all mem l k s) (hk:l.length≤k):s=Zlt md own all mem l []∧s.length=1:=by
 have hr:=h.run
 obtain⟨most,hok⟩:=h.ok
 rw[x'y hk]at hr hok
 refine⟨hr,?_⟩
 have:((s.length:Int) == 1)=true:=hok
 have:=eq_of_beq this
 omega
theorem Zrr (s:List Int):(iRs s).flatten=s.map iD:=by
 unfold iRs
 induction s with
 |nil=>rfl
 |cons n s ih=>rw[z'm,z'R,ih];rfl
theorem v'l {g:Option (Nat×Nat)} {e:TypeId} {s:List Int} {H:Heap} (hg:gOk g s.length) (hm: ∀b cap,g=some (b,cap)→(b,HC.cells e (cap*1) (s.map iD))∈H):Fz H (y'c s) (.gs g s.length):=by
 cases g with
 |none=>
  have h0:s=[]:=z'C hg
  subst h0
  exact w'v
 |some p=>
  obtain⟨b,cap⟩:=p
  refine .inr ⟨rfl,.inr (.inr ⟨b,0,_,cap,.inl ⟨rfl,rfl⟩,(z'I s).symm,_,_,_,hm b cap rfl,?_⟩)⟩
  rw[y'a]
  rw[←Zrr]
  exact FzR.refl _ _ (Zf0 s)
set_option maxRecDepth 20000
attribute [local irreducible] x'c VCg VCw VCx
abbrev G:=Option (Nat×Nat)
theorem Zan {g:G} {e:TypeId} {esz:Nat} {l:List D} {X H:Heap}:shp g e esz l X++H=shp g e esz l (X++H):=by cases g<;>rfl
theorem ZcG {g:G} {e:TypeId} {esz:Nat} {l:List D} {X:Heap} {x:Nat×HC} (h:x∈X):x∈shp g e esz l X:=by
 cases g with
 |none=>exact h
 |some p=>exact z'k _ h
theorem v'g {b cap:Nat} {e:TypeId} {esz:Nat} {l:List D} {X:Heap}:(b,HC.cells e (cap*esz) l)∈shp (some (b,cap)) e esz l X:=z'n ..
abbrev OR:=List (G×List Int)
def rgC (rs:OR):List D:=rs.map fun p=> .gs p.1 p.2.length
def rgH:OR→Heap→Heap
 |[],X=>X
 |p::rs,X=>shp p.1 3 1 (p.2.map iD) (rgH rs X)
theorem ZsJ (rs:OR):(rgC rs).length=rs.length:=z'i ..
theorem ZiF: ∀(rs:OR) (X H:Heap),rgH rs X++H=rgH rs (X++H)
 |[],X,H=>rfl
 |p::rs,X,H=>by rw[rgH,rgH,Zan,ZiF rs]
theorem Zll: ∀(rs:OR) (p:G×List Int) (X:Heap),rgH (rs++[p]) X=rgH rs (shp p.1 3 1 (p.2.map iD) X)
 |[],p,X=>rfl
 |q::rs,p,X=>by rw[z'N,rgH,rgH,Zll rs]
theorem Zm3 (g:G) (e:TypeId) (esz:Nat) (l:List D): ∀(rs:OR) (X:Heap),(shp g e esz l (rgH rs X)).Perm (rgH rs (shp g e esz l X))
 |[],X=>z'9 _
 |p::rs,X=>(Zgb _ _ _ _ _ _ _ _ _).trans (ZeQ _ _ _ _ (Zm3 g e esz l rs X))
noncomputable def cnt (a:Nat×HC) (H:Heap):Nat:= @List.count _ (@instBEqOfDecidableEq _ (fun _ _=>Classical.propDecidable _)) a H
theorem y'6 {H H':Heap} (h: ∀a,cnt a H=cnt a H'):H.Perm H':=by
 letI:DecidableEq (Nat×HC):=fun _ _=>Classical.propDecidable _
 exact List.perm_iff_count.2 h
noncomputable def cnS (g:G) (e:TypeId) (esz:Nat) (l:List D) (a:Nat×HC):Nat:=cnt a (shp g e esz l [])
noncomputable def cn1 (x a:Nat×HC):Nat:=cnt a [x]
noncomputable def cnR (rs:OR) (a:Nat×HC):Nat:=cnt a (rgH rs [])
theorem y'N (a:Nat×HC) (X Y:Heap):cnt a (X++Y)=cnt a X+cnt a Y:=by
 unfold cnt
 letI:DecidableEq (Nat×HC):=fun _ _=>Classical.propDecidable _
 exact List.count_append
theorem y'V (a:Nat×HC):cnt a []=0:=rfl
theorem y'I (a x:Nat×HC) (X:Heap):cnt a (x::X)=cn1 x a+cnt a X:=y'N a [x] X
theorem x'q (a:Nat×HC) (g:G) (e:TypeId) (esz:Nat) (l:List D) (X:Heap):cnt a (shp g e esz l X)=cnS g e esz l a+cnt a X:=by
 have:shp g e esz l X=shp g e esz l []++X:=by rw[Zan];rfl
 rw[this,y'N];rfl
theorem w'i (a:Nat×HC) (rs:OR) (X:Heap):cnt a (rgH rs X)=cnR rs a+cnt a X:=by
 have:rgH rs X=rgH rs []++X:=by rw[ZiF];rfl
 rw[this,y'N];rfl
theorem VCo.weak {P:Program} {n:Nat} {ops:Array Oper} {l:List Oper} {s s':St} {Q:Exit→St→Prop} (h:Weak s s') (hv:VCo P n ops l s' Q):VCo P n ops l s Q:=fun x a w hn hs=>hv x a w hn (h x a w hs)
theorem Zk9 (l:List Int) (hl:l.length≤1000000):Fun Tryz.prog 145 [y'c l] [] false (fun d H'=> ∃g:G,gOk g l.length∧d= .gs g l.length∧H'=shp g 3 1 (l.map iD) []):=
 (ZmL l hl).mono fun d H' ⟨g,h1,h2,h3⟩=>⟨g,h2,h1,by rw[h3,Zrr]⟩
theorem ZqR (ls:List (List Int)) (hls:ls.length≤1000000) (hr: ∀r,r∈ls→r.length≤1000000):Fun Tryz.prog 146 [.sl false 1 (x'X ls)] [] false
  (fun d H'=> ∃q:G×OR,(gOk q.1 ls.length∧q.2.map (·.2)=ls∧ ∀p,p∈q.2→gOk p.1 p.2.length)∧d= .gs q.1 ls.length∧H'=shp q.1 29 1 (rgC q.2) (rgH q.2 [])):=by
 refine Fun.of T [.tmp 2] Tryz.func146 rfl Tryz.ntmps146 Tryz.results146 rfl (by kernel_rfl) ?_
 repeat' first|refine vs T rfl fun K hK=>?_;(try simp (disch:=omega) only[go_sem,Nat.reduceBEq,y'4]);(refine hK _ _ ?_;clear hK K)|refine st rfl ?_|refine nl ?_
 refine VC.loop {q:Nat×G×OR//q.1≤ls.length∧q.2.2.map (·.2)=ls.take q.1∧ ∀p,p∈q.2.2→gOk p.1 p.2.length} (fun q=>⟨y'd [(3,.gs q.1.2.1 q.1.1),(6,.sl false 1 (x'X ls)),(7,iD (ls.length:Nat)),(8,iD (q.1.1:Nat))],shp q.1.2.1 29 1 (rgC q.1.2.2) (rgH q.1.2.2 [])⟩) (fun q=>ls.length-q.1.1) ⟨(0,none,[]),by simp⟩ ?_ ?_
 ·refine Weak.sub ?_
  simp[sub,upd]
 ·rintro⟨⟨k,g,rs⟩,hk,hrs,hg⟩
  dsimp only at hk hrs hg⊢
  have hrl:rs.length=k:=by
   have:=congrArg List.length hrs
   rw[z'i,z'y]at this
   omega
  have hfl:(rgC rs).length=k*1:=by rw[ZsJ];omega
  rcases z'j k ls.length with hlt|hge
  ·have hd:decide ((k:Int)<(ls.length:Int))=true:=by simp;omega
   have hw:IntKind.i64.wrap ((k:Int)+1)=((k+1:Nat):Int):=by rw[w64 (by omega)];omega
   obtain⟨r,hx⟩: ∃r,ls[k]?=some r:=⟨_,z'b hlt⟩
   have hrow:(x'X ls)[k]?=some [y'c r]:=by rw[Zaa,hx];rfl
   have hrr:=hr r (z'l hx)
   repeat' first|refine vs T rfl fun K hK=>?_;(try simp (disch:=omega) only[go_sem,Nat.reduceBEq,Nat.reduceMul,Nat.reduceLeDiff,hd,hw,hrow,y'4,Zan,z'H]);(first|refine hK _ _ ?_;clear hK K|refine⟨_,_,_,_,(by repeat (first|exact Sp.here|apply Sp.over)),?_,(by exact⟨rfl,rfl⟩),⟨by decide,?_⟩,fun g' hg'=>hK _ _ ?_⟩<;>clear hK K|refine⟨?_,hK _ _ ?_⟩<;>clear hK K;focus(try omega)|refine Op1.callx rfl rfl (Zk9 r hrr) rfl (fun q hq=>?_);refine hK _ _ ?_;clear hK K)|refine st rfl ?_|refine sc rfl ?_|refine nl ?_
   ·exact hfl
   ·omega
   ·refine⟨⟨(k+1,g',rs++[(q,r)]),by simp only[];omega,?_,?_⟩,?_,by simp only[];omega⟩
    ·simp only[]
     rw[z'v,hrs,y'e,hx];rfl
    ·intro p hp
     rcases z'W.1 hp with hp|hp
     ·exact hg p hp
     ·rw[z'V]at hp;subst hp;exact hq
    ·refine Weak.trans (Weak.perm ((Zgb _ _ _ _ _ _ _ _ _).trans (ZeQ _ _ _ _ (Zm3 _ _ _ _ rs [])))) ?_
     refine z'S ?_ ?_
     ·simp only[]
      rw[Zll]
      simp[rgC]
     ·simp[sub,upd]
  ·have hd:decide ((k:Int)<(ls.length:Int))=false:=by simp;omega
   obtain rfl:k=ls.length:=by omega
   rw[z'Y]at hrs
   refine ZdL (t:=3) (g:=g) rfl fun hgk=>?_
   repeat' first|refine vs T rfl fun K hK=>?_;(try simp (disch:=omega) only[go_sem,Nat.reduceBEq,hd]);(refine hK _ _ ?_;clear hK K)|refine st rfl ?_|refine sc rfl ?_|refine nl ?_
   exact z'A T (z'w _) ⟨(g,rs),⟨hgk,hrs,hg⟩,rfl,rfl⟩
theorem ZqQ (ls:List (List En)) (hls:ls.length≤1000000) (hr: ∀r,r∈ls→r.length≤1000000):Fun Tryz.prog 147 [.sl false 1 (x'6 ls)] [] false
  (fun d H'=> ∃g:G,gOk g ls.length∧d= .gs g ls.length∧H'=shp g 119 1 (ls.map buf) []):=by
 refine Fun.of T [.tmp 2] Tryz.func147 rfl Tryz.ntmps147 Tryz.results147 rfl (by kernel_rfl) ?_
 repeat' first|refine vs T rfl fun K hK=>?_;(try simp (disch:=omega) only[go_sem,Nat.reduceBEq,y'u]);(refine hK _ _ ?_;clear hK K)|refine st rfl ?_|refine nl ?_
 refine VC.loop {q:Nat×G//q.1≤ls.length} (fun q=>⟨y'd [(3,.gs q.1.2 q.1.1),(6,.sl false 1 (x'6 ls)),(7,iD (ls.length:Nat)),(8,iD (q.1.1:Nat))],shp q.1.2 119 1 ((ls.take q.1.1).map buf) []⟩) (fun q=>ls.length-q.1.1) ⟨(0,none),by simp⟩ ?_ ?_
 ·refine Weak.sub ?_
  simp[sub,upd]
 ·rintro⟨⟨k,g⟩,hk⟩
  dsimp only at hk⊢
  have hfl:((ls.take k).map buf).length=k*1:=by rw[z'i,z'y];omega
  rcases z'j k ls.length with hlt|hge
  ·have hd:decide ((k:Int)<(ls.length:Int))=true:=by simp;omega
   have hw:IntKind.i64.wrap ((k:Int)+1)=((k+1:Nat):Int):=by rw[w64 (by omega)];omega
   obtain⟨r,hx⟩: ∃r,ls[k]?=some r:=⟨_,z'b hlt⟩
   have hrow:(x'6 ls)[k]?=some [buf r]:=by rw[v'y,hx];rfl
   have hrr:=hr r (z'l hx)
   repeat' first|refine vs T rfl fun K hK=>?_;(try simp (disch:=omega) only[go_sem,Nat.reduceBEq,Nat.reduceMul,Nat.reduceLeDiff,hd,hw,hrow,y'u]);(first|refine hK _ _ ?_;clear hK K|refine⟨_,_,_,_,(by repeat (exact Sp.here)),?_,(by exact⟨rfl,rfl⟩),⟨by decide,?_⟩,fun g' hg'=>hK _ _ ?_⟩<;>clear hK K|refine⟨?_,hK _ _ ?_⟩<;>clear hK K;focus(try omega)|refine Op1.callp rfl rfl (ZqO r hrr) rfl ?_;refine hK _ _ ?_;clear hK K)|refine st rfl ?_|refine sc rfl ?_|refine nl ?_
   ·exact hfl
   ·omega
   ·refine⟨⟨(k+1,g'),by simp only[];omega⟩,z'S ?_ ?_,by simp only[];omega⟩
    ·simp only[]
     rw[y'e,hx]
     simp
    ·simp[sub,upd]
  ·have hd:decide ((k:Int)<(ls.length:Int))=false:=by simp;omega
   obtain rfl:k=ls.length:=by omega
   refine ZdL (t:=3) (g:=g) rfl fun hgk=>?_
   repeat' first|refine vs T rfl fun K hK=>?_;(try simp (disch:=omega) only[go_sem,Nat.reduceBEq,hd]);(refine hK _ _ ?_;clear hK K)|refine st rfl ?_|refine sc rfl ?_|refine nl ?_
   refine z'A T (z'w _) ⟨g,hgk,rfl,?_⟩
   rw[z'Y]
structure OC where
 gp:G
 gr:G
 gm:G
 gb:G
 rs:OR
structure OC.ok (q:OC) (c:Cf):Prop where
 pc:gOk q.gp c.pc.length
 gr:gOk q.gr c.regs.length
 mem:gOk q.gm c.mem.length
 bufs:gOk q.gb c.bufs.length
 rows:q.rs.map (·.2)=c.regs
 row: ∀p,p∈q.rs→gOk p.1 p.2.length
def OC.cs (q:OC) (c:Cf):List D:=[.gs q.gp c.pc.length,.gs q.gr c.regs.length,.gs q.gm c.mem.length,.gs q.gb c.bufs.length]
def OC.h (q:OC) (c:Cf) (X:Heap):Heap:=shp q.gp 3 1 (c.pc.map iD) (shp q.gr 29 1 (rgC q.rs) (shp q.gm 3 1 (c.mem.map iD) (shp q.gb 119 1 (c.bufs.map buf) (rgH q.rs X))))
theorem ZbA {H:Heap}: ∀(rs:OR),(∀p,p∈rs→gOk p.1 p.2.length)→(∀x,x∈rgH rs []→x∈H)→FzR H 1 (x'X (rs.map (·.2))) (rgC rs)
 |[],_,_=>trivial
 |p::rs,hg,hm=>by
  refine⟨rfl,⟨_,_,rfl,v'l (e:=3) (hg p (z'n ..)) (fun b cap hb=>hm _ ?_),trivial⟩,?_⟩
  ·rw[rgH,hb];exact v'g
  ·exact ZbA rs (fun p hp=>hg p (z'k _ hp)) (fun x hx=>hm x (ZcG hx))
theorem ZjL {H:Heap}: ∀(l:List (List En)),FzR H 1 (x'6 l) (l.map buf)
 |[]=>trivial
 |b::l=>⟨rfl,⟨_,_,rfl,Fz.refl _ _,trivial⟩,ZjL l⟩
theorem Zdd {H:Heap} {g:G} {e:TypeId} {esz:Nat} {l:List D} {rows:List (List D)} {n:Nat} (hn:n=rows.length) (hg:gOk g n) (hm: ∀b cap,g=some (b,cap)→(b,HC.cells e (cap*esz) l)∈H) (hr:FzR H esz rows l):
  Fz H (.sl false esz rows) (.gs g n):=by
 cases g with
 |none=>
  have h0:n=0:=hg
  subst h0
  have:rows=[]:=z'C hn.symm
  subst this
  exact w'v
 |some p=>
  obtain⟨b,cap⟩:=p
  exact .inr ⟨rfl,.inr (.inr ⟨b,0,_,cap,.inl ⟨rfl,rfl⟩,hn,_,_,_,hm b cap rfl,by rw[y'a];exact hr⟩)⟩
theorem OC.fzL {q:OC} {c:Cf} (h:q.ok c) {H:Heap} {X:Heap} (hm: ∀x,x∈q.h c []→x∈H):FzL H (cfC c) (q.cs c):=by
 have m1: ∀x,x∈shp q.gr 29 1 (rgC q.rs) (shp q.gm 3 1 (c.mem.map iD) (shp q.gb 119 1 (c.bufs.map buf) (rgH q.rs [])))→x∈H:=fun x hx=>hm x (ZcG hx)
 have m2: ∀x,x∈shp q.gm 3 1 (c.mem.map iD) (shp q.gb 119 1 (c.bufs.map buf) (rgH q.rs []))→x∈H:=fun x hx=>m1 x (ZcG hx)
 have m3: ∀x,x∈shp q.gb 119 1 (c.bufs.map buf) (rgH q.rs [])→x∈H:=fun x hx=>m2 x (ZcG hx)
 have m4: ∀x,x∈rgH q.rs []→x∈H:=fun x hx=>m3 x (ZcG hx)
 refine z'4 (v'l (e:=3) h.pc fun b cap hb=>hm _ (by rw[OC.h,hb];exact v'g)) (z'4 ?_ (z'4 (v'l (e:=3) h.mem fun b cap hb=>m2 _ (by rw[hb];exact v'g)) (z'4 ?_ v'o)))
 ·refine Zdd (e:=29) (l:=rgC q.rs) (y'4 _).symm h.gr (fun b cap hb=>m1 _ (by rw[hb];exact v'g)) ?_
  rw[←h.rows]
  exact ZbA q.rs h.row m4
 ·exact Zdd (e:=119) (l:=c.bufs.map buf) (y'u _).symm h.bufs (fun b cap hb=>m3 _ (by rw[hb];exact v'g)) (ZjL c.bufs)
theorem Fun.perm {P:Program} {f:FuncId} {args:List D} {H:Heap} {fr:Bool} {Φ Ψ:D→Heap→Prop} (h:Fun P f args H fr Φ) (hk: ∀d H',Φ d H'→ ∃H'',H'.Perm H''∧Ψ d H''):Fun P f args H fr Ψ:=
 ⟨h.1,fun w L0 vs hi hr=>(h.2 w L0 vs hi hr).mono fun e w' ⟨v,he,d,H',h1,h2,h3,h4⟩=>by
  obtain⟨H'',hp,hψ⟩:=hk d H' h1
  exact⟨v,he,d,H'',hψ,by rw[v'6 hp];exact h2,h3.perm hp,h4.perm (.refl _) hp⟩⟩
theorem ZdP (c:Cf) (hc:OkC c):Fun Tryz.prog 96 [.agg (cfC c)] [] false (fun d H'=> ∃q:OC,q.ok c∧d= .agg (q.cs c)∧H'=q.h c []):=by
 have c1:=Zk9 c.pc (by have:=hc.pc;omega)
 have c2:=ZqR c.regs (by have:=hc.regs;omega) (fun r hr=>by have:=hc.row r hr;omega)
 have c3:=Zk9 c.mem (by have:=hc.mem;omega)
 have c4:=ZqQ c.bufs (by have:=hc.bufs;omega) (fun r hr=>by have:=hc.buf r hr;omega)
 refine Fun.of T [.cell 2 69] Tryz.func96 rfl Tryz.ntmps96 Tryz.results96 rfl (by kernel_rfl) ?_
 repeat' first|refine vb rfl rfl rfl rfl ?_|refine dr (id:=1) T 11 (by kernel_rfl) ?_|refine VCg.nil T ?_;simp only[ZaL,WB]|apply VCg.step T rfl rfl;focus((try simp (disch:=omega) only[go_sem,Nat.reduceBEq]);(exact rfl))|refine VCg.ownx T rfl rfl rfl rfl (c1) rfl ?_|refine VCg.ownx T rfl rfl rfl rfl (c2) rfl ?_|refine VCg.ownx T rfl rfl rfl rfl (c3) rfl ?_|refine vs T rfl fun K hK=>?_;(try simp (disch:=omega) only[go_sem,Nat.reduceAdd]);(intro bq hbq;(try simp only[HB]at hbq);refine hK _ _ ?_;clear hK K)|refine st rfl ?_|refine nl ?_
 rintro _ _ ⟨gp,hgp,rfl,rfl⟩ hap1 _ _ ⟨⟨gr,rs⟩,⟨hgr,hrs,hrow⟩,rfl,rfl⟩ hap2 _ _ ⟨gm,hgm,rfl,rfl⟩ hap3
 refine vt rfl fun K hK=>?_
 refine Op1.callx rfl rfl c4 rfl (fun gb hgb=>?_)
 refine hK _ _ ?_
 clear hK K
 simp only[updO]
 refine vo ?_
 refine VCo.weak (Weak.perm (H':=(bq,.cells 69 4 [.gs none 0,.gs none 0,.gs none 0,.gs none 0])::(OC.mk gp gr gm gb rs).h c []) (y'6 fun a=>by simp only[OC.h,x'q,w'i,y'I,y'N,y'V];omega)) ?_
 repeat' first|refine vs T rfl fun K hK=>?_;(try simp (disch:=omega) only[go_sem,Nat.reduceBEq,Nat.reduceAdd,Nat.reduceLeDiff]);(refine hK _ _ ?_;clear hK K)|refine st rfl ?_|refine nl ?_|refine ov ?_
 refine ZuI T rfl hget_eq rfl rfl rfl (z'0 _ _) ⟨⟨gp,gr,gm,gb,rs⟩,⟨hgp,hgr,hgm,hgb,hrs,hrow⟩,rfl,rfl⟩
theorem Zi8 {H X:Heap} (h:(H++X).blocks.Nodup): ∀b,b∈H.blocks→b∉X.blocks:=by
 simp only[Heap.blocks,z'v]at h
 obtain⟨_,_,h3⟩:=y'z.1 h
 exact fun b hp hr=>h3 b hp b hr rfl
theorem FzL.length {H:Heap}: ∀{l' l:List D},FzL H l' l→l'.length=l.length
 |[],_,h=>by cases h;rfl
 |_::_,_,h=>by
  obtain⟨d,ds,rfl,_,h2⟩:=h
  rw[z'u,z'u,FzL.length h2]
theorem Weak.fzc {env:Nat→D} {b n:Nat} {e:TypeId} {l l':List D} {X H1:Heap} (h:FzL H1 l' l):Weak ⟨env,(b,.cells e n l)::(X++H1)⟩ ⟨env,(b,.cells e n l')::X⟩:=fun x a w hs=>by
 have hsub:((b,HC.cells e n l)::X).Sublist ((b,HC.cells e n l)::(X++H1)):=(List.sublist_append_left _ _).cons_cons _
 have h1:=Weak.heap hsub x a w hs
 have hnd:=hs.inv.nodup
 have hnot: ∀k,k∈H1.blocks→k∉Heap.blocks ((b,HC.cells e n l)::X):=fun k hk hm=>by
  simp only at hnd
  have:((b,HC.cells e n l)::(X++H1))=((b,HC.cells e n l)::X)++H1:=rfl
  rw[this]at hnd
  exact Zi8 hnd k hm hk
 have hlv:live ((b,HC.cells e n l')::X) x.L0=live ((b,HC.cells e n l)::X) x.L0:=rfl
 refine{env:=fun t=>by rw[hlv];exact h1.env t,inv:=?_,evo:=?_,defers:=h1.defers,size:=h1.size}
 ·refine{rel:=fun k c hm=>?_,nodup:=h1.inv.nodup,apart:=h1.inv.apart,old:=h1.inv.old}
  rw[hlv]
  rcases z't.1 hm with hm|hm
  ·cases hm
   obtain⟨q1,arr,q2,q3,q4⟩:=hs.inv.rel b _ (z'n ..)
   refine⟨FzL.one h q1,arr,q2,q3,?_⟩
   rw[FzL.length h]
   refine RelL.fz (H1:=H1) ⟨hs.inv,fun k c hk=>⟨z'k _ (y'9 _ hk),fun hl=>?_⟩,fun k _ hl=>hl.imp id (SubH.blocks hsub k)⟩ _ _ _ h q4
   rcases hl with hl|hl
   ·exact hs.inv.apart k (z'p.2 ⟨(k,c),z'k _ (y'9 _ hk),rfl⟩) hl
   ·exact hnot k (z'p.2 ⟨(k,c),hk,rfl⟩) hl
  ·exact h1.inv.rel k c (z'k _ hm)
 ·exact⟨h1.evo.os,h1.evo.tape,h1.evo.output,h1.evo.size,h1.evo.block,h1.evo.fresh⟩
theorem FzL.append {H:Heap}: ∀{l' l m' m:List D},FzL H l' l→FzL H m' m→FzL H (l'++m') (l++m)
 |[],_,_,_,h,h2=>by cases h;exact h2
 |_::_,_,_,_,h,h2=>by
  obtain⟨d,ds,rfl,q1,q2⟩:=h
  exact⟨d,ds++_,rfl,q1,FzL.append q2 h2⟩
theorem x'j {b cap:Nat} {e:TypeId} {esz:Nat} {l:List D} {X:Heap}:shp (some (b,cap)) e esz l X=(b,.cells e (cap*esz) l)::X:=rfl
theorem HRel.cut {w:World} {L:Nat→Prop} {b n k:Nat} {ty:TypeId} {l:List D} (h:HRel w L b (.cells ty n l)):HRel w L b (.cells ty n (l.take k)):=by
 obtain⟨h1,arr,h2,h3,h4⟩:=h
 refine⟨v'1 h1 k,arr,h2,h3,?_⟩
 have:=RelL.take k _ _ h4
 rw[List.take_take]at this
 rwa [z'y]
theorem Weak.cut {env:Nat→D} {g:Option (Nat×Nat)} {e:TypeId} {esz k:Nat} {l:List D} {X:Heap}:Weak ⟨env,shp g e esz l X⟩ ⟨env,shp g e esz (l.take k) X⟩:=fun x a w h=>by
 cases g with
 |none=>exact h
 |some p=>
  obtain⟨b,cap⟩:=p
  have hbl:(shp (some (b,cap)) e esz (l.take k) X).blocks=(shp (some (b,cap)) e esz l X).blocks:=rfl
  have hlv:live (shp (some (b,cap)) e esz (l.take k) X) x.L0=live (shp (some (b,cap)) e esz l X) x.L0:=by
   funext b'
   simp only[live,hbl]
  refine{env:=fun t=>by rw[hlv];exact h.env t,inv:=?_,evo:=?_,defers:=h.defers,size:=h.size}
  ·refine{rel:=fun b' c hm=>?_,nodup:=by rw[hbl];exact h.inv.nodup,apart:=fun b' hb=>h.inv.apart b' (by rw[←hbl];exact hb),old:=h.inv.old}
   rw[hlv]
   rcases z't.1 hm with hm|hm
   ·cases hm
    exact HRel.cut (h.inv.rel b _ (z'n ..))
   ·exact h.inv.rel b' c (z'k _ hm)
  ·exact⟨h.evo.os,h.evo.tape,h.evo.output,h.evo.size,h.evo.block,fun b' hb=>h.evo.fresh b' (by rw[←hbl];exact hb)⟩
theorem Weak.cutC {env:Nat→D} {b n:Nat} {e:TypeId} {k:Nat} {l:List Int} {X:Heap}:Weak ⟨env,(b,.cells e n (l.map iD))::X⟩ ⟨env,(b,.cells e n ((l.take k).map iD))::X⟩:=fun x a w h=>by
 have hlv:live ((b,HC.cells e n ((l.take k).map iD))::X) x.L0=live ((b,HC.cells e n (l.map iD))::X) x.L0:=rfl
 refine{env:=fun t=>by rw[hlv];exact h.env t,inv:=?_,evo:=?_,defers:=h.defers,size:=h.size}
 ·refine{rel:=fun b' c hm=>?_,nodup:=h.inv.nodup,apart:=h.inv.apart,old:=h.inv.old}
  rw[hlv]
  rcases z't.1 hm with hm|hm
  ·cases hm
   rw[List.map_take]
   exact HRel.cut (h.inv.rel b _ (z'n ..))
  ·exact h.inv.rel b' c (z'k _ hm)
 ·exact⟨h.evo.os,h.evo.tape,h.evo.output,h.evo.size,h.evo.block,h.evo.fresh⟩
def Zh2 (l:List Opc) (md:Int) (own:List Int) (all:List (List Int)) (mem:List Int):D:= .tup [iD (ZfI l md own all mem),bD (ZbT l md own all mem)]
theorem ZfJ {l:List Opc} {md:Int} {own mem:List Int} {all:List (List Int)} (h:ZbT l md own all mem=false):Zh2 l md own all mem= .tup [iD 0,bD false]:=by simp[Zh2,ZfI,h]
structure OkV (l:List Opc) (own:List Int) (all:List (List Int)) (mem:List Int):Prop where
 kl:l.length≤1000
 ko:own.length≤1000
 km:mem.length≤1000
 ka:all.length≤1000
 kr: ∀r,r∈all→r.length≤1000
theorem ZnN {all:List (List Int)} {k:Nat} {r:List Int} (h:all[k]?=some r):(w'f (all.take (k+1))).map iD=(w'f (all.take k)).map iD++[iD (r.length:Nat)]:=by
 rw[y'e,h]
 simp[w'f]
theorem Zdq (all:List (List Int)):(w'f all).length=all.length:=z'i ..
end Go.Proofs.YthlkpnjjkgmlkaaGreat
