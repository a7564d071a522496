/- The plain law of code's value. No condition. -/
import Derived.Test.YtfneeacgkdhldaaGreatXk
import Derived.Test.YtfneeacgkdhldaaGreatXg
import Derived.Test.YtfneeacgkdhldaaGreatK2
namespace Go.Proofs.YtfneeacgkdhldaaGreat
set_option maxHeartbeats 16000000
set_option linter.unusedSimpArgs false
set_option linter.unusedVariables false
open Go Go.Proofs Go.Vc
def w'g (md:Int) (own:List Int) (all:List (List Int)) (mem:List Int) (s:List Int) (x:Opc):List Int:=
 if x.1=1 then s++[x.2.1.tmod md]else if x.1=2 then s++[own.getD x.2.1.toNat 0]else if x.1=3 then s++[mem.getD x.2.1.toNat 0]else if x.1=4 then s++[(all.getD x.2.2.toNat []).getD x.2.1.toNat 0]
 else if x.1=5 then s.set (s.length-1) (tI (s.getD (s.length-1) 0 == 0))else(s.set (s.length-2) (x'E x.1 (s.getD (s.length-2) 0) (s.getD (s.length-1) 0) md)).take (s.length-1)
def Zgo (md:Int) (own:List Int) (all:List (List Int)) (mem:List Int) (l:List Opc) (s:List Int):List Int:=l.foldl (w'g md own all mem) s
def x'N (all:List (List Int)):List Int:=all.map fun r=>(r.length:Int)
def v'V (l:List Opc) (md:Int) (own:List Int) (all:List (List Int)) (mem:List Int):Bool:=
 decide (2≤md)&&decide (md≤16)&&y'W own md&&y'W mem md&&(all.all fun r=>y'W r md)&&y'1 l (x'N all) own.length mem.length
def Zc2 (l:List Opc) (md:Int) (own:List Int) (all:List (List Int)) (mem:List Int):Int:=match v'V l md own all mem with|true=>(Zgo md own all mem l []).getD 0 0|false=>0
theorem x'i {n m:Int}:inB n m=true↔0≤n∧n<m:=by simp[inB]
theorem Ziu {s t:List Int} {md:Int}:y'W (s++t) md=(y'W s md&&y'W t md):=by simp[y'W]
theorem Zbz {s:List Int} {md:Int} (h:y'W s md=true) {i:Nat} {n:Int} (hn:s[i]?=some n):0≤n∧n<md:=by
 unfold y'W at h
 rw[z'I]at h
 exact x'i.1 (h n (z'h hn))
theorem Zav {s:List Int} {md:Int} (h:y'W s md=true) (hm:0<md) (i:Nat):0≤s.getD i 0∧s.getD i 0<md:=by
 rw[z'e]
 cases hq:s[i]? with
 |none=>exact⟨Int.le_refl _,hm⟩
 |some n=>exact Zbz h hq
theorem Zkm {s:List Int} {md:Int} (h:y'W s md=true) (k:Nat):y'W (s.take k) md=true:=by
 unfold y'W at*
 rw[z'I]at*
 exact fun x hx=>h x (List.mem_of_mem_take hx)
theorem Zdn {s:List Int} {md:Int} (h:y'W s md=true) (k:Nat) {v:Int} (hv:0≤v∧v<md):y'W (s.set k v) md=true:=by
 unfold y'W at*
 rw[z'I]at*
 intro x hx
 rcases List.mem_or_eq_of_mem_set hx with h'|h'
 ·exact h x h'
 ·subst h';exact x'i.2 hv
theorem Zhe (b:Bool):0≤tI b∧tI b≤1:=by cases b<;>decide
theorem ZeF {a md:Int} (h0:0≤a) (hm:0<md):0≤a.tmod md∧a.tmod md<md:=by
 rw[Int.tmod_eq_emod_of_nonneg h0]
 exact⟨Int.emod_nonneg _ (by omega),Int.emod_lt_of_pos _ hm⟩
theorem ZoM {op a b md:Int} (hm:2≤md) (ha:0≤a∧a<md) (hb:0≤b∧b<md):0≤x'E op a b md∧x'E op a b md<md:=by
 have t: ∀c:Bool,0≤tI c∧tI c<md:=fun c=>⟨(Zhe c).1,by have:=(Zhe c).2;omega⟩
 unfold x'E
 repeat' split
 all_goals first
  |exact t _
  |exact ZeF (by omega) (by omega)
  |exact ZeF (Int.mul_nonneg ha.1 hb.1) (by omega)
theorem ZdA {op n:Int} (h:1≤op∧op≤4):y'H op n=some (n+1):=by simp[y'H,h]
theorem Zj5 {md:Int} (hm:2≤md) {own mem s:List Int} {all:List (List Int)} {x:Opc} (ho:y'M (x'N all) own.length mem.length x=true) (hown:y'W own md=true) (hmem:y'W mem md=true)
  (hall:(all.all fun r=>y'W r md)=true) (hs:y'W s md=true) {n':Int} (hl:y'H x.1 s.length=some n'):y'W (w'g md own all mem s x) md=true∧((w'g md own all mem s x).length:Int)=n':=by
 have one: ∀v,0≤v∧v<md→y'W (s++[v]) md=true:=fun v hv=>by
  rw[Ziu,hs]
  simp[y'W,x'i,inB,hv]
 have len1: ∀v:Int,((s++[v]).length:Int)=s.length+1:=fun v=>by simp
 unfold w'g
 by_cases h1:x.1=1
 ·rw[if_pos h1]
  rw[ZdA (by omega)]at hl;cases hl
  have h0:0≤x.2.1:=by
   have:inB x.2.1 10000=true:=by simpa[y'M,h1]using ho
   exact(x'i.1 this).1
  exact⟨one _ (ZeF h0 (by omega)),len1 _⟩
 rw[if_neg h1]
 by_cases h2:x.1=2
 ·rw[if_pos h2]
  rw[ZdA (by omega)]at hl;cases hl
  exact⟨one _ (Zav hown (by omega) _),len1 _⟩
 rw[if_neg h2]
 by_cases h3:x.1=3
 ·rw[if_pos h3]
  rw[ZdA (by omega)]at hl;cases hl
  exact⟨one _ (Zav hmem (by omega) _),len1 _⟩
 rw[if_neg h3]
 by_cases h4:x.1=4
 ·rw[if_pos h4]
  rw[ZdA (by omega)]at hl;cases hl
  refine⟨one _ ?_,len1 _⟩
  rw[z'e (l:=all)]
  cases hq:all[x.2.2.toNat]? with
  |none=>simp;omega
  |some r=>
   rw[z'I]at hall
   exact Zav (hall r (z'h hq)) (by omega) _
 rw[if_neg h4]
 by_cases h5:x.1=5
 ·rw[if_pos h5]
  have:y'H x.1 s.length=some (s.length:Int)∨y'H x.1 s.length=none:=by
   unfold y'H
   rw[if_neg (by omega)]
   split
   ·exact .inl rfl
   ·rw[if_neg (by omega)];exact .inr rfl
  rcases this with h|h<;>rw[h]at hl<;>cases hl
  exact⟨Zdn hs _ ⟨(Zhe _).1,by have:=(Zhe (s.getD (s.length-1) 0 == 0)).2;omega⟩,by simp⟩
 rw[if_neg h5]
 have:(2≤(s.length:Int)∧y'H x.1 s.length=some ((s.length:Int)-1))∨y'H x.1 s.length=none:=by
  unfold y'H
  by_cases hq:1≤x.1∧x.1≤4
  ·omega
  rw[if_neg hq,if_neg (by omega)]
  split
  ·rename_i h;exact .inl ⟨h.2,rfl⟩
  ·exact .inr rfl
 rcases this with⟨h2',h⟩|h<;>rw[h]at hl<;>cases hl
 refine⟨Zkm (Zdn hs _ (ZoM hm (Zav hs (by omega) _) (Zav hs (by omega) _))) _,?_⟩
 rw[z'F,y'U]
 omega
structure RunI (md:Int) (own:List Int) (all:List (List Int)) (mem:List Int) (l:List Opc) (k:Nat) (s:List Int):Prop where
 le:k≤l.length
 len:s.length≤k
 inm:y'W s md=true
 ok: ∃most,oneL (w'F (l.drop k) s.length most)=true
 run:Zgo md own all mem (l.drop k) s=Zgo md own all mem l []
theorem RunI.zero {md:Int} {own mem:List Int} {all:List (List Int)} {l:List Opc} (h:oneL (w'F l 0 0)=true):RunI md own all mem l 0 []:=
 ⟨z'M _,z'w _,rfl,⟨0,by simpa using h⟩,by simp⟩
theorem RunI.next {md:Int} (hm:2≤md) {own mem s:List Int} {all:List (List Int)} {l:List Opc} {k:Nat} {x:Opc} (h:RunI md own all mem l k s) (hx:l[k]?=some x) (ho:y'M (x'N all) own.length mem.length x=true) (hown:y'W own md=true) (hmem:y'W mem md=true)
  (hall:(all.all fun r=>y'W r md)=true):(∃n',y'H x.1 s.length=some n')∧RunI md own all mem l (k+1) (w'g md own all mem s x):=by
 have hlt:=(z'c.1 hx).1
 have hdr:l.drop k=x::l.drop (k+1):=by rw[y'0 hlt];congr 1;exact y'k ((z'b hlt).symm.trans hx)
 obtain⟨most,hok⟩:=h.ok
 rw[hdr,ZdB]at hok
 cases hs:y'H x.1 s.length with
 |none=>rw[hs]at hok;cases hok
 |some n'=>
  rw[hs]at hok
  obtain⟨h1,h2⟩:=Zj5 hm ho hown hmem hall h.inm hs
  refine⟨⟨n',rfl⟩,by omega,?_,h1,⟨max most n',by rw[h2];exact hok⟩,?_⟩
  ·have:=h.len
   have hn:n'≤s.length+1:=by
    unfold y'H at hs
    repeat' split at hs
    all_goals first|(cases hs;omega)|cases hs
   omega
  ·rw[←h.run,hdr];rfl
theorem RunI.last {md:Int} {own mem s:List Int} {all:List (List Int)} {l:List Opc} {k:Nat} (h:RunI md own all mem l k s) (hk:l.length≤k):s=Zgo md own all mem l []∧s.length=1:=by
 have hr:=h.run
 obtain⟨most,hok⟩:=h.ok
 rw[x'R hk]at hr hok
 refine⟨hr,?_⟩
 have:((s.length:Int) == 1)=true:=hok
 have:=eq_of_beq this
 omega
theorem ZfE (s:List Int):(iRs s).flatten=s.map iD:=by
 unfold iRs
 induction s with
 |nil=>rfl
 |cons n s ih=>rw[z'B,z'0,ih];rfl
theorem w'z {g:Option (Nat×Nat)} {e:TypeId} {s:List Int} {H:Heap} (hg:gOk g s.length) (hm: ∀b cap,g=some (b,cap)→(b,HC.cells e (cap*1) (s.map iD))∈H):Fz H (z'C s) (.gs g s.length):=by
 cases g with
 |none=>
  have h0:s=[]:=z'2 hg
  subst h0
  exact y'q
 |some p=>
  obtain⟨b,cap⟩:=p
  refine .inr ⟨rfl,.inr (.inr ⟨b,0,_,cap,.inl ⟨rfl,rfl⟩,(z'k s).symm,_,_,_,hm b cap rfl,?_⟩)⟩
  rw[y'o]
  rw[←ZfE]
  exact FzR.refl _ _ (Zb9 s)
set_option maxRecDepth 20000
attribute [local irreducible] y'5 VCg VCw VCx
abbrev G:=Option (Nat×Nat)
theorem ZeC {g:G} {e:TypeId} {esz:Nat} {l:List D} {X H:Heap}:shp g e esz l X++H=shp g e esz l (X++H):=by cases g<;>rfl
theorem w'Q {g:G} {e:TypeId} {esz:Nat} {l:List D} {X:Heap} {x:Nat×HC} (h:x∈X):x∈shp g e esz l X:=by
 cases g with
 |none=>exact h
 |some p=>exact z'd _ h
theorem x'x {b cap:Nat} {e:TypeId} {esz:Nat} {l:List D} {X:Heap}:(b,HC.cells e (cap*esz) l)∈shp (some (b,cap)) e esz l X:=z'D ..
abbrev OR:=List (G×List Int)
def rgC (rs:OR):List D:=rs.map fun p=> .gs p.1 p.2.length
def rgH:OR→Heap→Heap
 |[],X=>X
 |p::rs,X=>shp p.1 3 1 (p.2.map iD) (rgH rs X)
theorem Zjf (rs:OR):(rgC rs).length=rs.length:=z's ..
theorem Zjg: ∀(rs:OR) (X H:Heap),rgH rs X++H=rgH rs (X++H)
 |[],X,H=>rfl
 |p::rs,X,H=>by rw[rgH,rgH,ZeC,Zjg rs]
theorem Zfi: ∀(rs:OR) (p:G×List Int) (X:Heap),rgH (rs++[p]) X=rgH rs (shp p.1 3 1 (p.2.map iD) X)
 |[],p,X=>rfl
 |q::rs,p,X=>by rw[y'i,rgH,rgH,Zfi rs]
theorem Zjn (g:G) (e:TypeId) (esz:Nat) (l:List D): ∀(rs:OR) (X:Heap),(shp g e esz l (rgH rs X)).Perm (rgH rs (shp g e esz l X))
 |[],X=>y'K _
 |p::rs,X=>(ZeD _ _ _ _ _ _ _ _ _).trans (ZdL _ _ _ _ (Zjn g e esz l rs X))
noncomputable def cnt (a:Nat×HC) (H:Heap):Nat:= @List.count _ (@instBEqOfDecidableEq _ (fun _ _=>Classical.propDecidable _)) a H
theorem y'b {H H':Heap} (h: ∀a,cnt a H=cnt a H'):H.Perm H':=by
 letI:DecidableEq (Nat×HC):=fun _ _=>Classical.propDecidable _
 exact List.perm_iff_count.2 h
noncomputable def cnS (g:G) (e:TypeId) (esz:Nat) (l:List D) (a:Nat×HC):Nat:=cnt a (shp g e esz l [])
noncomputable def cn1 (x a:Nat×HC):Nat:=cnt a [x]
noncomputable def cnR (rs:OR) (a:Nat×HC):Nat:=cnt a (rgH rs [])
theorem z'6 (a:Nat×HC) (X Y:Heap):cnt a (X++Y)=cnt a X+cnt a Y:=by
 unfold cnt
 letI:DecidableEq (Nat×HC):=fun _ _=>Classical.propDecidable _
 exact List.count_append
theorem y'a (a:Nat×HC):cnt a []=0:=rfl
theorem z'V (a x:Nat×HC) (X:Heap):cnt a (x::X)=cn1 x a+cnt a X:=z'6 a [x] X
theorem y'f (a:Nat×HC) (g:G) (e:TypeId) (esz:Nat) (l:List D) (X:Heap):cnt a (shp g e esz l X)=cnS g e esz l a+cnt a X:=by
 have:shp g e esz l X=shp g e esz l []++X:=by rw[ZeC];rfl
 rw[this,z'6];rfl
theorem y'G (a:Nat×HC) (rs:OR) (X:Heap):cnt a (rgH rs X)=cnR rs a+cnt a X:=by
 have:rgH rs X=rgH rs []++X:=by rw[Zjg];rfl
 rw[this,z'6];rfl
theorem VCo.weak {P:Program} {n:Nat} {ops:Array Oper} {l:List Oper} {s s':St} {Q:Exit→St→Prop} (h:Weak s s') (hv:VCo P n ops l s' Q):VCo P n ops l s Q:=fun x a w hn hs=>hv x a w hn (h x a w hs)
theorem Zh0 (l:List Int) (hl:l.length≤1000000):Fun Tryz.prog 107 [z'C l] [] false (fun d H'=> ∃g:G,gOk g l.length∧d= .gs g l.length∧H'=shp g 3 1 (l.map iD) []):=
 (Zjc l hl).mono fun d H' ⟨g,h1,h2,h3⟩=>⟨g,h2,h1,by rw[h3,ZfE]⟩
theorem ZmA (ls:List (List Int)) (hls:ls.length≤1000000) (hr: ∀r,r∈ls→r.length≤1000000):Fun Tryz.prog 108 [.sl false 1 (y'V ls)] [] false
  (fun d H'=> ∃q:G×OR,(gOk q.1 ls.length∧q.2.map (·.2)=ls∧ ∀p,p∈q.2→gOk p.1 p.2.length)∧d= .gs q.1 ls.length∧H'=shp q.1 22 1 (rgC q.2) (rgH q.2 [])):=by
 refine Fun.of T [.tmp 2] Tryz.func108 rfl Tryz.ntmps108 Tryz.results108 rfl (by kernel_rfl) ?_
 repeat' first|refine vs T rfl fun K hK=>?_;(try simp (disch:=omega) only[go_sem,Nat.reduceBEq,y'm]);(refine hK _ _ ?_;clear hK K)|refine st rfl ?_|refine nl ?_
 refine VC.loop {q:Nat×G×OR//q.1≤ls.length∧q.2.2.map (·.2)=ls.take q.1∧ ∀p,p∈q.2.2→gOk p.1 p.2.length} (fun q=>⟨z'J [(3,.gs q.1.2.1 q.1.1),(6,.sl false 1 (y'V ls)),(7,iD (ls.length:Nat)),(8,iD (q.1.1:Nat))],shp q.1.2.1 22 1 (rgC q.1.2.2) (rgH q.1.2.2 [])⟩) (fun q=>ls.length-q.1.1) ⟨(0,none,[]),by simp⟩ ?_ ?_
 ·refine Weak.sub ?_
  simp[sub,upd]
 ·rintro⟨⟨k,g,rs⟩,hk,hrs,hg⟩
  dsimp only at hk hrs hg⊢
  have hrl:rs.length=k:=by
   have:=congrArg List.length hrs
   rw[z's,z'F]at this
   omega
  have hfl:(rgC rs).length=k*1:=by rw[Zjf];omega
  rcases z'g k ls.length with hlt|hge
  ·have hd:decide ((k:Int)<(ls.length:Int))=true:=by simp;omega
   have hw:IntKind.i64.wrap ((k:Int)+1)=((k+1:Nat):Int):=by rw[w64 (by omega)];omega
   obtain⟨r,hx⟩: ∃r,ls[k]?=some r:=⟨_,z'b hlt⟩
   have hrow:(y'V ls)[k]?=some [z'C r]:=by rw[w'Z,hx];rfl
   have hrr:=hr r (z'h hx)
   repeat' first|refine vs T rfl fun K hK=>?_;(try simp (disch:=omega) only[go_sem,Nat.reduceBEq,Nat.reduceMul,Nat.reduceLeDiff,hd,hw,hrow,y'm,ZeC,z'T]);(first|refine hK _ _ ?_;clear hK K|refine⟨_,_,_,_,(by repeat (first|exact Sp.here|apply Sp.over)),?_,(by exact⟨rfl,rfl⟩),⟨by decide,?_⟩,fun g' hg'=>hK _ _ ?_⟩<;>clear hK K|refine⟨?_,hK _ _ ?_⟩<;>clear hK K;focus(try omega)|refine Op1.callx rfl rfl (Zh0 r hrr) rfl (fun q hq=>?_);refine hK _ _ ?_;clear hK K)|refine st rfl ?_|refine sc rfl ?_|refine nl ?_
   ·exact hfl
   ·omega
   ·refine⟨⟨(k+1,g',rs++[(q,r)]),by simp only[];omega,?_,?_⟩,?_,by simp only[];omega⟩
    ·simp only[]
     rw[z'E,hrs,y'A,hx];rfl
    ·intro p hp
     rcases y'g.1 hp with hp|hp
     ·exact hg p hp
     ·rw[y'E]at hp;subst hp;exact hq
    ·refine Weak.trans (Weak.perm ((ZeD _ _ _ _ _ _ _ _ _).trans (ZdL _ _ _ _ (Zjn _ _ _ _ rs [])))) ?_
     refine z'v ?_ ?_
     ·simp only[]
      rw[Zfi]
      simp[rgC]
     ·simp[sub,upd]
  ·have hd:decide ((k:Int)<(ls.length:Int))=false:=by simp;omega
   obtain rfl:k=ls.length:=by omega
   rw[z'X]at hrs
   refine v'H (t:=3) (g:=g) rfl fun hgk=>?_
   repeat' first|refine vs T rfl fun K hK=>?_;(try simp (disch:=omega) only[go_sem,Nat.reduceBEq,hd]);(refine hK _ _ ?_;clear hK K)|refine st rfl ?_|refine sc rfl ?_|refine nl ?_
   exact z'n T (z'p _) ⟨(g,rs),⟨hgk,hrs,hg⟩,rfl,rfl⟩
theorem Zmz (ls:List (List En)) (hls:ls.length≤1000000) (hr: ∀r,r∈ls→r.length≤1000000):Fun Tryz.prog 109 [.sl false 1 (y'Y ls)] [] false
  (fun d H'=> ∃g:G,gOk g ls.length∧d= .gs g ls.length∧H'=shp g 117 1 (ls.map buf) []):=by
 refine Fun.of T [.tmp 2] Tryz.func109 rfl Tryz.ntmps109 Tryz.results109 rfl (by kernel_rfl) ?_
 repeat' first|refine vs T rfl fun K hK=>?_;(try simp (disch:=omega) only[go_sem,Nat.reduceBEq,z'Z]);(refine hK _ _ ?_;clear hK K)|refine st rfl ?_|refine nl ?_
 refine VC.loop {q:Nat×G//q.1≤ls.length} (fun q=>⟨z'J [(3,.gs q.1.2 q.1.1),(6,.sl false 1 (y'Y ls)),(7,iD (ls.length:Nat)),(8,iD (q.1.1:Nat))],shp q.1.2 117 1 ((ls.take q.1.1).map buf) []⟩) (fun q=>ls.length-q.1.1) ⟨(0,none),by simp⟩ ?_ ?_
 ·refine Weak.sub ?_
  simp[sub,upd]
 ·rintro⟨⟨k,g⟩,hk⟩
  dsimp only at hk⊢
  have hfl:((ls.take k).map buf).length=k*1:=by rw[z's,z'F];omega
  rcases z'g k ls.length with hlt|hge
  ·have hd:decide ((k:Int)<(ls.length:Int))=true:=by simp;omega
   have hw:IntKind.i64.wrap ((k:Int)+1)=((k+1:Nat):Int):=by rw[w64 (by omega)];omega
   obtain⟨r,hx⟩: ∃r,ls[k]?=some r:=⟨_,z'b hlt⟩
   have hrow:(y'Y ls)[k]?=some [buf r]:=by rw[x'b,hx];rfl
   have hrr:=hr r (z'h hx)
   repeat' first|refine vs T rfl fun K hK=>?_;(try simp (disch:=omega) only[go_sem,Nat.reduceBEq,Nat.reduceMul,Nat.reduceLeDiff,hd,hw,hrow,z'Z]);(first|refine hK _ _ ?_;clear hK K|refine⟨_,_,_,_,(by repeat (exact Sp.here)),?_,(by exact⟨rfl,rfl⟩),⟨by decide,?_⟩,fun g' hg'=>hK _ _ ?_⟩<;>clear hK K|refine⟨?_,hK _ _ ?_⟩<;>clear hK K;focus(try omega)|refine Op1.callp rfl rfl (Zmx r hrr) rfl ?_;refine hK _ _ ?_;clear hK K)|refine st rfl ?_|refine sc rfl ?_|refine nl ?_
   ·exact hfl
   ·omega
   ·refine⟨⟨(k+1,g'),by simp only[];omega⟩,z'v ?_ ?_,by simp only[];omega⟩
    ·simp only[]
     rw[y'A,hx]
     simp
    ·simp[sub,upd]
  ·have hd:decide ((k:Int)<(ls.length:Int))=false:=by simp;omega
   obtain rfl:k=ls.length:=by omega
   refine v'H (t:=3) (g:=g) rfl fun hgk=>?_
   repeat' first|refine vs T rfl fun K hK=>?_;(try simp (disch:=omega) only[go_sem,Nat.reduceBEq,hd]);(refine hK _ _ ?_;clear hK K)|refine st rfl ?_|refine sc rfl ?_|refine nl ?_
   refine z'n T (z'p _) ⟨g,hgk,rfl,?_⟩
   rw[z'X]
structure OC where
 gp:G
 gr:G
 gm:G
 gb:G
 rs:OR
structure OC.ok (q:OC) (c:Cf):Prop where
 pc:gOk q.gp c.pc.length
 gr:gOk q.gr c.regs.length
 mem:gOk q.gm c.mem.length
 bufs:gOk q.gb c.bufs.length
 rows:q.rs.map (·.2)=c.regs
 row: ∀p,p∈q.rs→gOk p.1 p.2.length
def OC.cs (q:OC) (c:Cf):List D:=[.gs q.gp c.pc.length,.gs q.gr c.regs.length,.gs q.gm c.mem.length,.gs q.gb c.bufs.length]
def OC.h (q:OC) (c:Cf) (X:Heap):Heap:=shp q.gp 3 1 (c.pc.map iD) (shp q.gr 22 1 (rgC q.rs) (shp q.gm 3 1 (c.mem.map iD) (shp q.gb 117 1 (c.bufs.map buf) (rgH q.rs X))))
theorem Zhk {H:Heap}: ∀(rs:OR),(∀p,p∈rs→gOk p.1 p.2.length)→(∀x,x∈rgH rs []→x∈H)→FzR H 1 (y'V (rs.map (·.2))) (rgC rs)
 |[],_,_=>trivial
 |p::rs,hg,hm=>by
  refine⟨rfl,⟨_,_,rfl,w'z (e:=3) (hg p (z'D ..)) (fun b cap hb=>hm _ ?_),trivial⟩,?_⟩
  ·rw[rgH,hb];exact x'x
  ·exact Zhk rs (fun p hp=>hg p (z'd _ hp)) (fun x hx=>hm x (w'Q hx))
theorem Zhi {H:Heap}: ∀(l:List (List En)),FzR H 1 (y'Y l) (l.map buf)
 |[]=>trivial
 |b::l=>⟨rfl,⟨_,_,rfl,Fz.refl _ _,trivial⟩,Zhi l⟩
theorem v'G {H:Heap} {g:G} {e:TypeId} {esz:Nat} {l:List D} {rows:List (List D)} {n:Nat} (hn:n=rows.length) (hg:gOk g n) (hm: ∀b cap,g=some (b,cap)→(b,HC.cells e (cap*esz) l)∈H) (hr:FzR H esz rows l):
  Fz H (.sl false esz rows) (.gs g n):=by
 cases g with
 |none=>
  have h0:n=0:=hg
  subst h0
  have:rows=[]:=z'2 hn.symm
  subst this
  exact y'q
 |some p=>
  obtain⟨b,cap⟩:=p
  exact .inr ⟨rfl,.inr (.inr ⟨b,0,_,cap,.inl ⟨rfl,rfl⟩,hn,_,_,_,hm b cap rfl,by rw[y'o];exact hr⟩)⟩
theorem OC.fzL {q:OC} {c:Cf} (h:q.ok c) {H:Heap} {X:Heap} (hm: ∀x,x∈q.h c []→x∈H):FzL H (cfC c) (q.cs c):=by
 have m1: ∀x,x∈shp q.gr 22 1 (rgC q.rs) (shp q.gm 3 1 (c.mem.map iD) (shp q.gb 117 1 (c.bufs.map buf) (rgH q.rs [])))→x∈H:=fun x hx=>hm x (w'Q hx)
 have m2: ∀x,x∈shp q.gm 3 1 (c.mem.map iD) (shp q.gb 117 1 (c.bufs.map buf) (rgH q.rs []))→x∈H:=fun x hx=>m1 x (w'Q hx)
 have m3: ∀x,x∈shp q.gb 117 1 (c.bufs.map buf) (rgH q.rs [])→x∈H:=fun x hx=>m2 x (w'Q hx)
 have m4: ∀x,x∈rgH q.rs []→x∈H:=fun x hx=>m3 x (w'Q hx)
 refine z't (w'z (e:=3) h.pc fun b cap hb=>hm _ (by rw[OC.h,hb];exact x'x)) (z't ?_ (z't (w'z (e:=3) h.mem fun b cap hb=>m2 _ (by rw[hb];exact x'x)) (z't ?_ x'T)))
 ·refine v'G (e:=22) (l:=rgC q.rs) (y'm _).symm h.gr (fun b cap hb=>m1 _ (by rw[hb];exact x'x)) ?_
  rw[←h.rows]
  exact Zhk q.rs h.row m4
 ·exact v'G (e:=117) (l:=c.bufs.map buf) (z'Z _).symm h.bufs (fun b cap hb=>m3 _ (by rw[hb];exact x'x)) (Zhi c.bufs)
theorem Fun.perm {P:Program} {f:FuncId} {args:List D} {H:Heap} {fr:Bool} {Φ Ψ:D→Heap→Prop} (h:Fun P f args H fr Φ) (hk: ∀d H',Φ d H'→ ∃H'',H'.Perm H''∧Ψ d H''):Fun P f args H fr Ψ:=
 ⟨h.1,fun w L0 vs hi hr=>(h.2 w L0 vs hi hr).mono fun e w' ⟨v,he,d,H',h1,h2,h3,h4⟩=>by
  obtain⟨H'',hp,hψ⟩:=hk d H' h1
  exact⟨v,he,d,H'',hψ,by rw[Zbe hp];exact h2,h3.perm hp,h4.perm (.refl _) hp⟩⟩
theorem Zes (c:Cf) (hc:OkC c):Fun Tryz.prog 97 [.agg (cfC c)] [] false (fun d H'=> ∃q:OC,q.ok c∧d= .agg (q.cs c)∧H'=q.h c []):=by
 have c1:=Zh0 c.pc (by have:=hc.pc;omega)
 have c2:=ZmA c.regs (by have:=hc.regs;omega) (fun r hr=>by have:=hc.row r hr;omega)
 have c3:=Zh0 c.mem (by have:=hc.mem;omega)
 have c4:=Zmz c.bufs (by have:=hc.bufs;omega) (fun r hr=>by have:=hc.buf r hr;omega)
 refine Fun.of T [.cell 2 51] Tryz.func97 rfl Tryz.ntmps97 Tryz.results97 rfl (by kernel_rfl) ?_
 repeat' first|refine vb rfl rfl rfl rfl ?_|refine dr (id:=1) T 11 (by kernel_rfl) ?_|refine VCg.nil T ?_;simp only[y'4,WB]|apply VCg.step T rfl rfl;focus((try simp (disch:=omega) only[go_sem,Nat.reduceBEq]);(exact rfl))|refine VCg.ownx T rfl rfl rfl rfl (c1) rfl ?_|refine VCg.ownx T rfl rfl rfl rfl (c2) rfl ?_|refine VCg.ownx T rfl rfl rfl rfl (c3) rfl ?_|refine vs T rfl fun K hK=>?_;(try simp (disch:=omega) only[go_sem,Nat.reduceAdd]);(intro bq hbq;(try simp only[HB]at hbq);refine hK _ _ ?_;clear hK K)|refine st rfl ?_|refine nl ?_
 rintro _ _ ⟨gp,hgp,rfl,rfl⟩ hap1 _ _ ⟨⟨gr,rs⟩,⟨hgr,hrs,hrow⟩,rfl,rfl⟩ hap2 _ _ ⟨gm,hgm,rfl,rfl⟩ hap3
 refine vt rfl fun K hK=>?_
 refine Op1.callx rfl rfl c4 rfl (fun gb hgb=>?_)
 refine hK _ _ ?_
 clear hK K
 simp only[updO]
 refine vo ?_
 refine VCo.weak (Weak.perm (H':=(bq,.cells 51 4 [.gs none 0,.gs none 0,.gs none 0,.gs none 0])::(OC.mk gp gr gm gb rs).h c []) (y'b fun a=>by simp only[OC.h,y'f,y'G,z'V,z'6,y'a];omega)) ?_
 repeat' first|refine vs T rfl fun K hK=>?_;(try simp (disch:=omega) only[go_sem,Nat.reduceBEq,Nat.reduceAdd,Nat.reduceLeDiff]);(refine hK _ _ ?_;clear hK K)|refine st rfl ?_|refine nl ?_|refine ov ?_
 refine Zj0 T rfl hget_eq rfl rfl rfl (z'5 _ _) ⟨⟨gp,gr,gm,gb,rs⟩,⟨hgp,hgr,hgm,hgb,hrs,hrow⟩,rfl,rfl⟩
theorem Zec {H X:Heap} (h:(H++X).blocks.Nodup): ∀b,b∈H.blocks→b∉X.blocks:=by
 simp only[Heap.blocks,z'E]at h
 obtain⟨_,_,h3⟩:=x'a.1 h
 exact fun b hp hr=>h3 b hp b hr rfl
theorem Weak.fzs {env:Nat→D} {H X:Heap} {g:G} {e:TypeId} {esz:Nat} {rows:List (List D)} {t:Nat} (hp:H.Perm (shp g e esz rows.flatten X)) (hn:env t= .gs g rows.length) (hr: ∀r,r∈rows→r.length=esz):
  Weak ⟨env,H⟩ ⟨upd env t (.sl false esz rows),X⟩:=fun x a w h=>by
 have h2:=Weak.perm hp x a w h
 have hg:gOk g rows.length:=by
  have:=h.env t
  simp only at this
  rw[hn]at this
  exact this.2
 have hnd:=h2.inv.nodup
 have hsplit:shp g e esz rows.flatten X=shp g e esz rows.flatten []++X:=by rw[ZeC];rfl
 refine Weak.fz (H1:=shp g e esz rows.flatten []) ?_ ?_ ?_ x a w h2
 ·rw[hn]
  exact v'G (e:=e) rfl hg (fun b cap hb=>by rw[hb];exact x'x) (FzR.refl _ _ hr)
 ·intro b c hm
  have hm':(b,c)∈shp g e esz rows.flatten X:=by rw[hsplit];exact y'B _ hm
  refine⟨hm',?_⟩
  simp only at hnd
  rw[hsplit]at hnd
  exact Zec hnd b (z'y.2 ⟨_,hm,rfl⟩)
 ·show X.Sublist (shp g e esz rows.flatten X)
  rw[hsplit]
  exact List.sublist_append_right _ _
theorem FzL.length {H:Heap}: ∀{l' l:List D},FzL H l' l→l'.length=l.length
 |[],_,h=>by cases h;rfl
 |_::_,_,h=>by
  obtain⟨d,ds,rfl,_,h2⟩:=h
  rw[z'H,z'H,FzL.length h2]
theorem Weak.fzc {env:Nat→D} {b n:Nat} {e:TypeId} {l l':List D} {X H1:Heap} (h:FzL H1 l' l):Weak ⟨env,(b,.cells e n l)::(X++H1)⟩ ⟨env,(b,.cells e n l')::X⟩:=fun x a w hs=>by
 have hsub:((b,HC.cells e n l)::X).Sublist ((b,HC.cells e n l)::(X++H1)):=(List.sublist_append_left _ _).cons_cons _
 have h1:=Weak.heap hsub x a w hs
 have hnd:=hs.inv.nodup
 have hnot: ∀k,k∈H1.blocks→k∉Heap.blocks ((b,HC.cells e n l)::X):=fun k hk hm=>by
  simp only at hnd
  have:((b,HC.cells e n l)::(X++H1))=((b,HC.cells e n l)::X)++H1:=rfl
  rw[this]at hnd
  exact Zec hnd k hm hk
 have hlv:live ((b,HC.cells e n l')::X) x.L0=live ((b,HC.cells e n l)::X) x.L0:=rfl
 refine{env:=fun t=>by rw[hlv];exact h1.env t,inv:=?_,evo:=?_,defers:=h1.defers,size:=h1.size}
 ·refine{rel:=fun k c hm=>?_,nodup:=h1.inv.nodup,apart:=h1.inv.apart,old:=h1.inv.old}
  rw[hlv]
  rcases z'P.1 hm with hm|hm
  ·cases hm
   obtain⟨q1,arr,q2,q3,q4⟩:=hs.inv.rel b _ (z'D ..)
   refine⟨FzL.one h q1,arr,q2,q3,?_⟩
   rw[FzL.length h]
   refine RelL.fz (H1:=H1) ⟨hs.inv,fun k c hk=>⟨z'd _ (y'7 _ hk),fun hl=>?_⟩,fun k _ hl=>hl.imp id (SubH.blocks hsub k)⟩ _ _ _ h q4
   rcases hl with hl|hl
   ·exact hs.inv.apart k (z'y.2 ⟨(k,c),z'd _ (y'7 _ hk),rfl⟩) hl
   ·exact hnot k (z'y.2 ⟨(k,c),hk,rfl⟩) hl
  ·exact h1.inv.rel k c (z'd _ hm)
 ·exact⟨h1.evo.os,h1.evo.tape,h1.evo.output,h1.evo.size,h1.evo.block,h1.evo.fresh⟩
theorem FzL.append {H:Heap}: ∀{l' l m' m:List D},FzL H l' l→FzL H m' m→FzL H (l'++m') (l++m)
 |[],_,_,_,h,h2=>by cases h;exact h2
 |_::_,_,_,_,h,h2=>by
  obtain⟨d,ds,rfl,q1,q2⟩:=h
  exact⟨d,ds++_,rfl,q1,FzL.append q2 h2⟩
theorem z'1 {b cap:Nat} {e:TypeId} {esz:Nat} {l:List D} {X:Heap}:shp (some (b,cap)) e esz l X=(b,.cells e (cap*esz) l)::X:=rfl
theorem w'L (c:Cf) (hc:OkC c):Fun Tryz.prog 38 [.agg (cfC c)] [] false (fun d H'=> ∃q:OC,q.ok c∧d= .agg (q.cs c)∧H'=q.h c []):=by
 have kp:=hc.pc
 have kr:=hc.regs
 have km:=hc.mem
 have kb:=hc.bufs
 refine Fun.of T [.cell 2 51] Tryz.func38 rfl Tryz.ntmps38 Tryz.results38 rfl (by kernel_rfl) ?_
 repeat' first|refine vb rfl rfl rfl rfl ?_|refine vs T rfl fun K hK=>?_;(try simp (disch:=omega) only[go_sem,Nat.reduceBEq,Nat.reduceAdd,Nat.reduceLeDiff,ZfE,z'k,z'T]);(first|refine hK _ _ ?_;clear hK K|refine⟨_,_,_,_,(by repeat (first|apply Sp.cons|exact Sp.nil)),?_,(by exact⟨rfl,rfl⟩),⟨by decide,?_⟩,fun g' hg'=>hK _ _ ?_⟩<;>clear hK K|intro bq hbq;(try simp only[HB]at hbq);refine hK _ _ ?_;clear hK K)|refine st rfl ?_|refine nl ?_
 ·rfl
 ·omega
 ·rfl
 ·omega
 rename_i b2 hb2 gp hgp
 revert g'
 intro gm hgm
 refine VC.loop {p:Nat×G×OR//(p.1≤c.regs.length∧gOk p.2.1 p.1)∧p.2.2.map (·.2)=c.regs.take p.1∧ ∀x,x∈p.2.2→gOk x.1 x.2.length} (fun p=>⟨z'J [(1,.pt (cfC c)),(2,.is (.pointer (some ⟨b2,0,none⟩))),(3,.is (.pointer (some ⟨bq,0,none⟩))),(4,iD (p.1.1:Nat))],(bq,.cells 51 4 [.gs gp c.pc.length,.gs p.1.2.1 p.1.1,.gs gm c.mem.length,.gs none 0])::(b2,.cells 51 4 [.gs none 0,.gs none 0,.gs none 0,.gs none 0])::shp p.1.2.1 22 1 (rgC p.1.2.2) (rgH p.1.2.2 (shp gm 3 1 (c.mem.map iD) (shp gp 3 1 (c.pc.map iD) [])))⟩) (fun p=>c.regs.length-p.1.1) ⟨(0,none,[]),by simp[gOk]⟩ ?_ ?_
 ·refine Weak.sub ?_
  simp[sub,upd]
 rintro⟨⟨k,gr,rs⟩,⟨hk,hgr⟩,hrs,hg⟩
 dsimp only at hk hgr hrs hg⊢
 have hrl:rs.length=k:=by
  have:=congrArg List.length hrs
  rw[z's,z'F]at this
  omega
 have hfl:(rgC rs).length=k*1:=by rw[Zjf];omega
 rcases z'g k c.regs.length with hlt|hge
 ·have hd:decide ((k:Int)<(c.regs.length:Int))=true:=by simp;omega
  have hw:IntKind.i64.wrap ((k:Int)+1)=((k+1:Nat):Int):=by rw[w64 (by omega)];omega
  obtain⟨r,hx⟩: ∃r,c.regs[k]?=some r:=⟨_,z'b hlt⟩
  have hrow:(y'V c.regs)[k]?=some [z'C r]:=by rw[w'Z,hx];rfl
  have hrr:=hc.row r (z'h hx)
  repeat' first|refine vs T rfl fun K hK=>?_;(try simp (disch:=omega) only[go_sem,Nat.reduceBEq,Nat.reduceAdd,Nat.reduceMul,Nat.reduceLeDiff,hd,hw,hrow,y'm,ZfE,z'k,z'T]);(first|refine hK _ _ ?_;clear hK K|refine⟨_,_,_,_,(by repeat (first|exact Sp.here|apply Sp.cons|exact Sp.nil|apply Sp.over)),?_,(by exact⟨rfl,rfl⟩),⟨by decide,?_⟩,fun g' hg'=>hK _ _ ?_⟩<;>clear hK K|refine⟨?_,hK _ _ ?_⟩<;>clear hK K;focus(try omega))|refine st rfl ?_|refine sc rfl ?_|refine nl ?_
  ·rfl
  ·omega
  ·exact hfl
  ·omega
  rename_i q hq
  refine⟨⟨(k+1,g',rs++[(q,r)]),⟨by simp only[];omega,hg'⟩,?_,?_⟩,?_,by simp only[];omega⟩
  ·simp only[]
   rw[z'E,hrs,y'A,hx];rfl
  ·intro p hp
   rcases y'g.1 hp with hp|hp
   ·exact hg p hp
   ·rw[y'E]at hp;subst hp;exact hq
  ·have hrc:rgC (rs++[(q,r)])=rgC rs++[.gs q r.length]:=by simp[rgC]
   refine Weak.trans (Weak.perm (H':=(bq,.cells 51 4 [.gs gp c.pc.length,.gs g' (k+1),.gs gm c.mem.length,.gs none 0])::(b2,.cells 51 4 [.gs none 0,.gs none 0,.gs none 0,.gs none 0])::shp g' 22 1 (rgC (rs++[(q,r)])) (rgH (rs++[(q,r)]) (shp gm 3 1 (c.mem.map iD) (shp gp 3 1 (c.pc.map iD) [])))) (y'b fun a=>by rw[hrc];simp only[Zfi,y'f,y'G,z'V,z'6,y'a];omega)) (Weak.sub ?_)
   simp[sub,upd]
 have hd:decide ((k:Int)<(c.regs.length:Int))=false:=by simp;omega
 obtain rfl:k=c.regs.length:=by omega
 rw[z'X]at hrs
 repeat' first|refine vs T rfl fun K hK=>?_;(try simp (disch:=omega) only[go_sem,Nat.reduceBEq,hd,y'm]);(refine hK _ _ ?_;clear hK K)|refine st rfl ?_|refine sc rfl ?_|refine nl ?_
 refine VC.loop {p:Nat×G//p.1≤c.bufs.length∧gOk p.2 p.1} (fun p=>⟨z'J [(1,.pt (cfC c)),(2,.is (.pointer (some ⟨b2,0,none⟩))),(3,.is (.pointer (some ⟨bq,0,none⟩))),(6,iD (p.1.1:Nat))],(bq,.cells 51 4 [.gs gp c.pc.length,.gs gr c.regs.length,.gs gm c.mem.length,.gs p.1.2 p.1.1])::(b2,.cells 51 4 [.gs none 0,.gs none 0,.gs none 0,.gs none 0])::shp p.1.2 117 1 ((c.bufs.take p.1.1).map buf) (shp gr 22 1 (rgC rs) (rgH rs (shp gm 3 1 (c.mem.map iD) (shp gp 3 1 (c.pc.map iD) []))))⟩) (fun p=>c.bufs.length-p.1.1) ⟨(0,none),by simp[gOk]⟩ ?_ ?_
 ·refine Weak.sub ?_
  simp[sub,upd]
 rintro⟨⟨j,gb⟩,hj,hgb⟩
 dsimp only at hj hgb⊢
 have hfl2:((c.bufs.take j).map buf).length=j*1:=by rw[z's,z'F];omega
 rcases z'g j c.bufs.length with hlt|hge
 ·have hd:decide ((j:Int)<(c.bufs.length:Int))=true:=by simp;omega
  have hw:IntKind.i64.wrap ((j:Int)+1)=((j+1:Nat):Int):=by rw[w64 (by omega)];omega
  obtain⟨r,hx⟩: ∃r,c.bufs[j]?=some r:=⟨_,z'b hlt⟩
  have hrow:(y'Y c.bufs)[j]?=some [buf r]:=by rw[x'b,hx];rfl
  have hrr:=hc.buf r (z'h hx)
  repeat' first|refine vs T rfl fun K hK=>?_;(try simp (disch:=omega) only[go_sem,Nat.reduceBEq,Nat.reduceAdd,Nat.reduceMul,Nat.reduceLeDiff,hd,hw,hrow,z'Z,z'A,z'T]);(first|refine hK _ _ ?_;clear hK K|refine⟨_,_,_,_,(by repeat (first|exact Sp.here|apply Sp.cons|apply Sp.over)),?_,(by exact⟨rfl,rfl⟩),⟨by decide,?_⟩,fun g' hg'=>hK _ _ ?_⟩<;>clear hK K|refine⟨_,_,_,_,(by repeat (first|apply Sp.cons|exact Sp.nil)),?_,(by exact⟨rfl,rfl⟩),?_,fun g' hg'=>hK _ _ ?_⟩<;>clear hK K|refine⟨?_,hK _ _ ?_⟩<;>clear hK K;focus(try omega))|refine st rfl ?_|refine sc rfl ?_|refine nl ?_
  ·rfl
  ·omega
  ·exact hfl2
  ·omega
  rename_i q hq
  rcases g' with _|⟨bb,cap⟩
  ·have:j+1=0:=hg'
   omega
  have htk:(c.bufs.take (j+1)).map buf=(c.bufs.take j).map buf++[buf r]:=by
   rw[y'A,hx]
   simp
  refine⟨⟨(j+1,some (bb,cap)),by simp only[];omega,hg'⟩,?_,by simp only[];omega⟩
  refine Weak.trans (Weak.perm (H':=(bb,.cells 117 (cap*1) ((c.bufs.take j).map buf++[.gs q r.length]))::(((bq,.cells 51 4 [.gs gp c.pc.length,.gs gr c.regs.length,.gs gm c.mem.length,.gs (some (bb,cap)) (j+1)])::(b2,.cells 51 4 [.gs none 0,.gs none 0,.gs none 0,.gs none 0])::(shp gr 22 1 (rgC rs) (rgH rs (shp gm 3 1 (c.mem.map iD) (shp gp 3 1 (c.pc.map iD) [])))))++shp q 114 2 (eRs r).flatten []))
   (y'b fun a=>by simp only[z'1,y'f,y'G,z'V,z'6,y'a];omega)) ?_
  refine Weak.trans (Weak.fzc (l':=(c.bufs.take j).map buf++[buf r]) (FzL.append (FzL.refl _ _) (z't (Zat hq (z'A r) (w'6 r)) x'T))) ?_
  refine Weak.trans (Weak.perm (H':=(bq,.cells 51 4 [.gs gp c.pc.length,.gs gr c.regs.length,.gs gm c.mem.length,.gs (some (bb,cap)) (j+1)])::(b2,.cells 51 4 [.gs none 0,.gs none 0,.gs none 0,.gs none 0])::shp (some (bb,cap)) 117 1 ((c.bufs.take (j+1)).map buf) (shp gr 22 1 (rgC rs) (rgH rs (shp gm 3 1 (c.mem.map iD) (shp gp 3 1 (c.pc.map iD) [])))))
   (y'b fun a=>by rw[htk];simp only[z'1,y'f,y'G,z'V,z'6,y'a];omega)) (Weak.sub ?_)
  simp[sub,upd]
 have hd:decide ((j:Int)<(c.bufs.length:Int))=false:=by simp;omega
 obtain rfl:j=c.bufs.length:=by omega
 rw[z'X]
 refine VC.weak (Weak.perm (H':=(bq,.cells 51 4 [.gs gp c.pc.length,.gs gr c.regs.length,.gs gm c.mem.length,.gs gb c.bufs.length])::(b2,.cells 51 4 [.gs none 0,.gs none 0,.gs none 0,.gs none 0])::(OC.mk gp gr gm gb rs).h c []) (y'b fun a=>by simp only[OC.h,y'f,y'G,z'V,z'6,y'a];omega)) ?_
 have hne: ¬bq=b2:=hbq
 repeat' first|refine vs T rfl fun K hK=>?_;(try simp (disch:=omega) only[go_sem,Nat.reduceBEq,Nat.reduceAdd,Nat.reduceLeDiff,hd,z'Z,OC.h]);(refine hK _ _ ?_;clear hK K)|refine st rfl ?_|refine sc rfl ?_|refine nl ?_
 refine Zj0 T rfl (by(simp (disch:=omega) only[hget_ne,hget_eq]);rfl) rfl rfl rfl ((z'5 _ _).trans (z'5 _ _)) ⟨⟨gp,gr,gm,gb,rs⟩,⟨hgp,hgr,hgm,hgb,hrs,hg⟩,rfl,rfl⟩
end Go.Proofs.YtfneeacgkdhldaaGreat
