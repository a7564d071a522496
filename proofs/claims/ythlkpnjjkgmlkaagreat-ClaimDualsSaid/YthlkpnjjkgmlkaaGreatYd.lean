/- Contracts: rows of one's own. No condition. -/
import Derived.Test.YthlkpnjjkgmlkaaGreatXe
import Derived.Test.YthlkpnjjkgmlkaaGreatXk
import Derived.Test.YthlkpnjjkgmlkaaGreatXh
import Derived.Test.YthlkpnjjkgmlkaaGreatXg
import Derived.Test.YthlkpnjjkgmlkaaGreatK2
namespace Go.Proofs.YthlkpnjjkgmlkaaGreat
set_option maxHeartbeats 16000000
set_option linter.unusedSimpArgs false
set_option linter.unusedVariables false
set_option maxRecDepth 20000
open Go Go.Proofs Go.Vc
attribute [local irreducible] x'v VCg VCw VCx
def w'c (md:Int) (own:List Int) (all:List (List Int)) (mem:List Int) (s:List Int) (x:Opc):List Int:=
 if x.1=1 then s++[x.2.1.tmod md]else if x.1=2 then s++[own.getD x.2.1.toNat 0]else if x.1=3 then s++[mem.getD x.2.1.toNat 0]else if x.1=4 then s++[(all.getD x.2.2.toNat []).getD x.2.1.toNat 0]
 else if x.1=5 then s.set (s.length-1) (tI (s.getD (s.length-1) 0 == 0))else(s.set (s.length-2) (x'B x.1 (s.getD (s.length-2) 0) (s.getD (s.length-1) 0) md)).take (s.length-1)
def ZdO (md:Int) (own:List Int) (all:List (List Int)) (mem:List Int) (l:List Opc) (s:List Int):List Int:=l.foldl (w'c md own all mem) s
def x'y (all:List (List Int)):List Int:=all.map fun r=>(r.length:Int)
def w'1 (l:List Opc) (md:Int) (own:List Int) (all:List (List Int)) (mem:List Int):Bool:=
 decide (2≤md)&&decide (md≤16)&&y'O own md&&y'O mem md&&(all.all fun r=>y'O r md)&&y'G l (x'y all) own.length mem.length
def Zcc (l:List Opc) (md:Int) (own:List Int) (all:List (List Int)) (mem:List Int):Int:=match w'1 l md own all mem with|true=>(ZdO md own all mem l []).getD 0 0|false=>0
theorem x'e {n m:Int}:inB n m=true↔0≤n∧n<m:=by simp[inB]
theorem Zmq {s t:List Int} {md:Int}:y'O (s++t) md=(y'O s md&&y'O t md):=by simp[y'O]
theorem Zcg {s:List Int} {md:Int} (h:y'O s md=true) {i:Nat} {n:Int} (hn:s[i]?=some n):0≤n∧n<md:=by
 unfold y'O at h
 rw[z'q]at h
 exact x'e.1 (h n (z'l hn))
theorem ZaQ {s:List Int} {md:Int} (h:y'O s md=true) (hm:0<md) (i:Nat):0≤s.getD i 0∧s.getD i 0<md:=by
 rw[z'g]
 cases hq:s[i]? with
 |none=>exact⟨Int.le_refl _,hm⟩
 |some n=>exact Zcg h hq
theorem ZoQ {s:List Int} {md:Int} (h:y'O s md=true) (k:Nat):y'O (s.take k) md=true:=by
 unfold y'O at*
 rw[z'q]at*
 exact fun x hx=>h x (Zaj hx)
theorem ZeX {s:List Int} {md:Int} (h:y'O s md=true) (k:Nat) {v:Int} (hv:0≤v∧v<md):y'O (s.set k v) md=true:=by
 unfold y'O at*
 rw[z'q]at*
 intro x hx
 rcases List.mem_or_eq_of_mem_set hx with h'|h'
 ·exact h x h'
 ·subst h';exact x'e.2 hv
theorem Zky (b:Bool):0≤tI b∧tI b≤1:=by cases b<;>decide
theorem ZgR {a md:Int} (h0:0≤a) (hm:0<md):0≤a.tmod md∧a.tmod md<md:=by
 rw[Int.tmod_eq_emod_of_nonneg h0]
 exact⟨Int.emod_nonneg _ (by omega),Int.emod_lt_of_pos _ hm⟩
theorem ZtD {op a b md:Int} (hm:2≤md) (ha:0≤a∧a<md) (hb:0≤b∧b<md):0≤x'B op a b md∧x'B op a b md<md:=by
 have t: ∀c:Bool,0≤tI c∧tI c<md:=fun c=>⟨(Zky c).1,by have:=(Zky c).2;omega⟩
 unfold x'B
 repeat' split
 all_goals first
  |exact t _
  |exact ZgR (by omega) (by omega)
  |exact ZgR (Int.mul_nonneg ha.1 hb.1) (by omega)
theorem Zfv {op n:Int} (h:1≤op∧op≤4):y'v op n=some (n+1):=by simp[y'v,h]
theorem ZoB {md:Int} (hm:2≤md) {own mem s:List Int} {all:List (List Int)} {x:Opc} (ho:y'y (x'y all) own.length mem.length x=true) (hown:y'O own md=true) (hmem:y'O mem md=true)
  (hall:(all.all fun r=>y'O r md)=true) (hs:y'O s md=true) {n':Int} (hl:y'v x.1 s.length=some n'):y'O (w'c md own all mem s x) md=true∧((w'c md own all mem s x).length:Int)=n':=by
 have one: ∀v,0≤v∧v<md→y'O (s++[v]) md=true:=fun v hv=>by
  rw[Zmq,hs]
  simp[y'O,x'e,inB,hv]
 have len1: ∀v:Int,((s++[v]).length:Int)=s.length+1:=fun v=>by simp
 unfold w'c
 by_cases h1:x.1=1
 ·rw[if_pos h1]
  rw[Zfv (by omega)]at hl;cases hl
  have h0:0≤x.2.1:=by
   have:inB x.2.1 10000=true:=by simpa[y'y,h1]using ho
   exact(x'e.1 this).1
  exact⟨one _ (ZgR h0 (by omega)),len1 _⟩
 rw[if_neg h1]
 by_cases h2:x.1=2
 ·rw[if_pos h2]
  rw[Zfv (by omega)]at hl;cases hl
  exact⟨one _ (ZaQ hown (by omega) _),len1 _⟩
 rw[if_neg h2]
 by_cases h3:x.1=3
 ·rw[if_pos h3]
  rw[Zfv (by omega)]at hl;cases hl
  exact⟨one _ (ZaQ hmem (by omega) _),len1 _⟩
 rw[if_neg h3]
 by_cases h4:x.1=4
 ·rw[if_pos h4]
  rw[Zfv (by omega)]at hl;cases hl
  refine⟨one _ ?_,len1 _⟩
  rw[z'g (l:=all)]
  cases hq:all[x.2.2.toNat]? with
  |none=>simp;omega
  |some r=>
   rw[z'q]at hall
   exact ZaQ (hall r (z'l hq)) (by omega) _
 rw[if_neg h4]
 by_cases h5:x.1=5
 ·rw[if_pos h5]
  have:y'v x.1 s.length=some (s.length:Int)∨y'v x.1 s.length=none:=by
   unfold y'v
   rw[if_neg (by omega)]
   split
   ·exact .inl rfl
   ·rw[if_neg (by omega)];exact .inr rfl
  rcases this with h|h<;>rw[h]at hl<;>cases hl
  exact⟨ZeX hs _ ⟨(Zky _).1,by have:=(Zky (s.getD (s.length-1) 0 == 0)).2;omega⟩,by simp⟩
 rw[if_neg h5]
 have:(2≤(s.length:Int)∧y'v x.1 s.length=some ((s.length:Int)-1))∨y'v x.1 s.length=none:=by
  unfold y'v
  by_cases hq:1≤x.1∧x.1≤4
  ·omega
  rw[if_neg hq,if_neg (by omega)]
  split
  ·rename_i h;exact .inl ⟨h.2,rfl⟩
  ·exact .inr rfl
 rcases this with⟨h2',h⟩|h<;>rw[h]at hl<;>cases hl
 refine⟨ZoQ (ZeX hs _ (ZtD hm (ZaQ hs (by omega) _) (ZaQ hs (by omega) _))) _,?_⟩
 rw[z'L,x'w]
 omega
structure RunI (md:Int) (own:List Int) (all:List (List Int)) (mem:List Int) (l:List Opc) (k:Nat) (s:List Int):Prop where
 le:k≤l.length
 len:s.length≤k
 inm:y'O s md=true
 ok: ∃most,oneL (w'i (l.drop k) s.length most)=true
 run:ZdO md own all mem (l.drop k) s=ZdO md own all mem l []
theorem RunI.zero {md:Int} {own mem:List Int} {all:List (List Int)} {l:List Opc} (h:oneL (w'i l 0 0)=true):RunI md own all mem l 0 []:=
 ⟨z'A _,z'h _,rfl,⟨0,by simpa using h⟩,by simp⟩
theorem RunI.next {md:Int} (hm:2≤md) {own mem s:List Int} {all:List (List Int)} {l:List Opc} {k:Nat} {x:Opc} (h:RunI md own all mem l k s) (hx:l[k]?=some x) (ho:y'y (x'y all) own.length mem.length x=true) (hown:y'O own md=true) (hmem:y'O mem md=true)
  (hall:(all.all fun r=>y'O r md)=true):(∃n',y'v x.1 s.length=some n')∧RunI md own all mem l (k+1) (w'c md own all mem s x):=by
 have hlt:=(z'b.1 hx).1
 have hdr:l.drop k=x::l.drop (k+1):=by rw[x'x hlt];congr 1;exact z'O ((z'c hlt).symm.trans hx)
 obtain⟨most,hok⟩:=h.ok
 rw[hdr,Zb1]at hok
 cases hs:y'v x.1 s.length with
 |none=>rw[hs]at hok;cases hok
 |some n'=>
  rw[hs]at hok
  obtain⟨h1,h2⟩:=ZoB hm ho hown hmem hall h.inm hs
  refine⟨⟨n',rfl⟩,by omega,?_,h1,⟨max most n',by rw[h2];exact hok⟩,?_⟩
  ·have:=h.len
   have hn:n'≤s.length+1:=by
    unfold y'v at hs
    repeat' split at hs
    all_goals first|(cases hs;omega)|cases hs
   omega
  ·rw[←h.run,hdr];rfl
theorem RunI.last {md:Int} {own mem s:List Int} {all:List (List Int)} {l:List Opc} {k:Nat} (h:RunI md own all mem l k s) (hk:l.length≤k):s=ZdO md own all mem l []∧s.length=1:=by
 have hr:=h.run
 obtain⟨most,hok⟩:=h.ok
 rw[y'T hk]at hr hok
 refine⟨hr,?_⟩
 have:((s.length:Int) == 1)=true:=hok
 have:=eq_of_beq this
 omega
theorem Zkn (s:List Int):(iRs s).flatten=s.map iD:=by
 unfold iRs
 induction s with
 |nil=>rfl
 |cons n s ih=>rw[z's,y'f,ih];rfl
theorem w'H {g:Option (Nat×Nat)} {e:TypeId} {s:List Int} {H:Heap} (hg:gOk g s.length) (hm: ∀b cap,g=some (b,cap)→(b,HC.cells e (cap*1) (s.map iD))∈H):Fz H (y'r s) (.gs g s.length):=by
 cases g with
 |none=>
  have h0:s=[]:=z'9 hg
  subst h0
  exact z'1
 |some p=>
  obtain⟨b,cap⟩:=p
  refine .inr ⟨rfl,.inr (.inr ⟨b,0,_,cap,.inl ⟨rfl,rfl⟩,(z'o s).symm,_,_,_,hm b cap rfl,?_⟩)⟩
  rw[x's]
  rw[←Zkn]
  exact FzR.refl _ _ (ZeI s)
abbrev G:=Option (Nat×Nat)
theorem Zjl {g:G} {e:TypeId} {esz:Nat} {l:List D} {X H:Heap}:shp g e esz l X++H=shp g e esz l (X++H):=by cases g<;>rfl
theorem w'w {g:G} {e:TypeId} {esz:Nat} {l:List D} {X:Heap} {x:Nat×HC} (h:x∈X):x∈shp g e esz l X:=by
 cases g with
 |none=>exact h
 |some p=>exact z'd _ h
theorem x'J {b cap:Nat} {e:TypeId} {esz:Nat} {l:List D} {X:Heap}:(b,HC.cells e (cap*esz) l)∈shp (some (b,cap)) e esz l X:=z'z ..
abbrev OR:=List (G×List Int)
def rgC (rs:OR):List D:=rs.map fun p=> .gs p.1 p.2.length
def rgH:OR→Heap→Heap
 |[],X=>X
 |p::rs,X=>shp p.1 3 1 (p.2.map iD) (rgH rs X)
theorem Ztq (rs:OR):(rgC rs).length=rs.length:=z'm ..
theorem Zns: ∀(rs:OR) (X H:Heap),rgH rs X++H=rgH rs (X++H)
 |[],X,H=>rfl
 |p::rs,X,H=>by rw[rgH,rgH,Zjl,Zns rs]
theorem Zl1: ∀(rs:OR) (p:G×List Int) (X:Heap),rgH (rs++[p]) X=rgH rs (shp p.1 3 1 (p.2.map iD) X)
 |[],p,X=>rfl
 |q::rs,p,X=>by rw[w'E,rgH,rgH,Zl1 rs]
noncomputable def cnt (a:Nat×HC) (H:Heap):Nat:= @List.count _ (@instBEqOfDecidableEq _ (fun _ _=>Classical.propDecidable _)) a H
theorem y'X {H H':Heap} (h: ∀a,cnt a H=cnt a H'):H.Perm H':=by
 letI:DecidableEq (Nat×HC):=fun _ _=>Classical.propDecidable _
 exact List.perm_iff_count.2 h
noncomputable def cnS (g:G) (e:TypeId) (esz:Nat) (l:List D) (a:Nat×HC):Nat:=cnt a (shp g e esz l [])
noncomputable def cn1 (x a:Nat×HC):Nat:=cnt a [x]
noncomputable def cnR (rs:OR) (a:Nat×HC):Nat:=cnt a (rgH rs [])
theorem y'M (a:Nat×HC) (X Y:Heap):cnt a (X++Y)=cnt a X+cnt a Y:=by
 unfold cnt
 letI:DecidableEq (Nat×HC):=fun _ _=>Classical.propDecidable _
 exact List.count_append
theorem y'V (a:Nat×HC):cnt a []=0:=rfl
theorem y'z (a x:Nat×HC) (X:Heap):cnt a (x::X)=cn1 x a+cnt a X:=y'M a [x] X
theorem y'6 (a:Nat×HC) (g:G) (e:TypeId) (esz:Nat) (l:List D) (X:Heap):cnt a (shp g e esz l X)=cnS g e esz l a+cnt a X:=by
 have:shp g e esz l X=shp g e esz l []++X:=by rw[Zjl];rfl
 rw[this,y'M];rfl
theorem x'l (a:Nat×HC) (rs:OR) (X:Heap):cnt a (rgH rs X)=cnR rs a+cnt a X:=by
 have:rgH rs X=rgH rs []++X:=by rw[Zns];rfl
 rw[this,y'M];rfl
theorem VCo.weak {P:Program} {n:Nat} {ops:Array Oper} {l:List Oper} {s s':St} {Q:Exit→St→Prop} (h:Weak s s') (hv:VCo P n ops l s' Q):VCo P n ops l s Q:=fun x a w hn hs=>hv x a w hn (h x a w hs)
structure OC where
 gp:G
 gr:G
 gm:G
 gb:G
 rs:OR
structure OC.ok (q:OC) (c:Cf):Prop where
 pc:gOk q.gp c.pc.length
 gr:gOk q.gr c.regs.length
 mem:gOk q.gm c.mem.length
 bufs:gOk q.gb c.bufs.length
 rows:q.rs.map (·.2)=c.regs
 row: ∀p,p∈q.rs→gOk p.1 p.2.length
def OC.cs (q:OC) (c:Cf):List D:=[.gs q.gp c.pc.length,.gs q.gr c.regs.length,.gs q.gm c.mem.length,.gs q.gb c.bufs.length]
def OC.h (q:OC) (c:Cf) (X:Heap):Heap:=shp q.gp 3 1 (c.pc.map iD) (shp q.gr 29 1 (rgC q.rs) (shp q.gm 3 1 (c.mem.map iD) (shp q.gb 119 1 (c.bufs.map buf) (rgH q.rs X))))
theorem Zcd {H:Heap}: ∀(rs:OR),(∀p,p∈rs→gOk p.1 p.2.length)→(∀x,x∈rgH rs []→x∈H)→FzR H 1 (w'y (rs.map (·.2))) (rgC rs)
 |[],_,_=>trivial
 |p::rs,hg,hm=>by
  refine⟨rfl,⟨_,_,rfl,w'H (e:=3) (hg p (z'z ..)) (fun b cap hb=>hm _ ?_),trivial⟩,?_⟩
  ·rw[rgH,hb];exact x'J
  ·exact Zcd rs (fun p hp=>hg p (z'd _ hp)) (fun x hx=>hm x (w'w hx))
theorem ZkB {H:Heap}: ∀(l:List (List En)),FzR H 1 (w'o l) (l.map buf)
 |[]=>trivial
 |b::l=>⟨rfl,⟨_,_,rfl,Fz.refl _ _,trivial⟩,ZkB l⟩
theorem ZcB {H:Heap} {g:G} {e:TypeId} {esz:Nat} {l:List D} {rows:List (List D)} {n:Nat} (hn:n=rows.length) (hg:gOk g n) (hm: ∀b cap,g=some (b,cap)→(b,HC.cells e (cap*esz) l)∈H) (hr:FzR H esz rows l):
  Fz H (.sl false esz rows) (.gs g n):=by
 cases g with
 |none=>
  have h0:n=0:=hg
  subst h0
  have:rows=[]:=z'9 hn.symm
  subst this
  exact z'1
 |some p=>
  obtain⟨b,cap⟩:=p
  exact .inr ⟨rfl,.inr (.inr ⟨b,0,_,cap,.inl ⟨rfl,rfl⟩,hn,_,_,_,hm b cap rfl,by rw[x's];exact hr⟩)⟩
theorem OC.fzL {q:OC} {c:Cf} (h:q.ok c) {H:Heap} {X:Heap} (hm: ∀x,x∈q.h c []→x∈H):FzL H (cfC c) (q.cs c):=by
 have m1: ∀x,x∈shp q.gr 29 1 (rgC q.rs) (shp q.gm 3 1 (c.mem.map iD) (shp q.gb 119 1 (c.bufs.map buf) (rgH q.rs [])))→x∈H:=fun x hx=>hm x (w'w hx)
 have m2: ∀x,x∈shp q.gm 3 1 (c.mem.map iD) (shp q.gb 119 1 (c.bufs.map buf) (rgH q.rs []))→x∈H:=fun x hx=>m1 x (w'w hx)
 have m3: ∀x,x∈shp q.gb 119 1 (c.bufs.map buf) (rgH q.rs [])→x∈H:=fun x hx=>m2 x (w'w hx)
 have m4: ∀x,x∈rgH q.rs []→x∈H:=fun x hx=>m3 x (w'w hx)
 refine z'u (w'H (e:=3) h.pc fun b cap hb=>hm _ (by rw[OC.h,hb];exact x'J)) (z'u ?_ (z'u (w'H (e:=3) h.mem fun b cap hb=>m2 _ (by rw[hb];exact x'J)) (z'u ?_ x'9)))
 ·refine ZcB (e:=29) (l:=rgC q.rs) (y'C _).symm h.gr (fun b cap hb=>m1 _ (by rw[hb];exact x'J)) ?_
  rw[←h.rows]
  exact Zcd q.rs h.row m4
 ·exact ZcB (e:=119) (l:=c.bufs.map buf) (y'm _).symm h.bufs (fun b cap hb=>m3 _ (by rw[hb];exact x'J)) (ZkB c.bufs)
theorem Fun.perm {P:Program} {f:FuncId} {args:List D} {H:Heap} {fr:Bool} {Φ Ψ:D→Heap→Prop} (h:Fun P f args H fr Φ) (hk: ∀d H',Φ d H'→ ∃H'',H'.Perm H''∧Ψ d H''):Fun P f args H fr Ψ:=
 ⟨h.1,fun w L0 vs hi hr=>(h.2 w L0 vs hi hr).mono fun e w' ⟨v,he,d,H',h1,h2,h3,h4⟩=>by
  obtain⟨H'',hp,hψ⟩:=hk d H' h1
  exact⟨v,he,d,H'',hψ,by rw[ZbP hp];exact h2,h3.perm hp,h4.perm (.refl _) hp⟩⟩
theorem Weak.cutC {env:Nat→D} {b n:Nat} {e:TypeId} {k:Nat} {l:List Int} {X:Heap}:Weak ⟨env,(b,.cells e n (l.map iD))::X⟩ ⟨env,(b,.cells e n ((l.take k).map iD))::X⟩:=fun x a w h=>by
 have hlv:live ((b,HC.cells e n ((l.take k).map iD))::X) x.L0=live ((b,HC.cells e n (l.map iD))::X) x.L0:=rfl
 refine{env:=fun t=>by rw[hlv];exact h.env t,inv:=?_,evo:=?_,defers:=h.defers,size:=h.size}
 ·refine{rel:=fun b' c hm=>?_,nodup:=h.inv.nodup,apart:=h.inv.apart,old:=h.inv.old}
  rw[hlv]
  rcases z'F.1 hm with hm|hm
  ·cases hm
   rw[List.map_take]
   exact HRel.cut (h.inv.rel b _ (z'z ..))
  ·exact h.inv.rel b' c (z'd _ hm)
 ·exact⟨h.evo.os,h.evo.tape,h.evo.output,h.evo.size,h.evo.block,h.evo.fresh⟩
def valD2 (l:List Opc) (md:Int) (own:List Int) (all:List (List Int)) (mem:List Int):D:= .tup [iD (Zcc l md own all mem),bD (w'1 l md own all mem)]
theorem Za8 {l:List Opc} {md:Int} {own mem:List Int} {all:List (List Int)} (h:w'1 l md own all mem=false):valD2 l md own all mem= .tup [iD 0,bD false]:=by simp[valD2,Zcc,h]
structure OkV (l:List Opc) (own:List Int) (all:List (List Int)) (mem:List Int):Prop where
 kl:l.length≤1000
 ko:own.length≤1000
 km:mem.length≤1000
 ka:all.length≤1000
 kr: ∀r,r∈all→r.length≤1000
theorem Zip {all:List (List Int)} {k:Nat} {r:List Int} (h:all[k]?=some r):(x'y (all.take (k+1))).map iD=(x'y (all.take k)).map iD++[iD (r.length:Nat)]:=by
 rw[x'U,h]
 simp[x'y]
theorem Zan (all:List (List Int)):(x'y all).length=all.length:=z'm ..
theorem Zkb (l:List Opc) (md:Int) (own:List Int) (all:List (List Int)) (mem:List Int) (hk:OkV l own all mem):Pure Tryz.prog 35 [z'S l,iD md,y'r own,.sl false 1 (w'y all),y'r mem] (valD2 l md own all mem):=by
 have kl:=hk.kl
 have ko:=hk.ko
 have km:=hk.km
 have ka:=hk.ka
 have c1:=ZeW own (by omega) md
 have c2:=ZeW mem (by omega) md
 refine Fun.of T [.tmp 10,.tmp 11] Tryz.func35 rfl Tryz.ntmps35 Tryz.results35 rfl (by kernel_rfl) ?_
 by_cases m2:md<2
 ·have e1:decide (md<2)=true:=by simpa using m2
  rw[Za8 (by simp[w'1];omega)]
  repeat' first|refine mq1 @e1 ?_|exact y'B T (z'a _) ⟨rfl,rfl⟩|fail
 have e1:decide (md<2)=false:=by simpa using m2
 by_cases m16:md>16
 ·have e2:decide (md>16)=true:=by simpa using m16
  rw[Za8 (by simp[w'1];omega)]
  repeat' first|refine mq1 (z'X @e1 @e2) ?_|exact y'B T (z'a _) ⟨rfl,rfl⟩|fail
 have e2:decide (md>16)=false:=by simpa using m16
 cases ho:y'O own md with
 |false=>
  rw[Za8 (by simp[w'1,ho])]
  repeat' first|refine mq2 (x'i @e1 @e2 @ho) c1 ?_|exact y'B T (z'a _) ⟨rfl,rfl⟩|fail
 |true=>
 cases hmm:y'O mem md with
 |false=>
  rw[Za8 (by simp[w'1,hmm])]
  repeat' first|refine mq2 (x'f @e1 @e2 @ho @hmm) (z'X c1 c2) ?_|exact y'B T (z'a _) ⟨rfl,rfl⟩|fail
 |true=>
 repeat' first|refine mq2 (x'f @e1 @e2 @ho @hmm) (z'X c1 c2) ?_|fail
 refine VC.loop {p:Nat×Option (Nat×Nat)//p.1≤all.length∧ ∀(i:Nat) (y:List Int),i<p.1→all[i]?=some y→y'O y md=true} (fun p=>⟨z'T [(0,z'S l),(1,iD md),(2,y'r own),(3,.sl false 1 (w'y all)),(4,y'r mem),(12,.gs p.1.2 p.1.1),(13,iD (p.1.1:Nat))],shp p.1.2 3 1 ((x'y (all.take p.1.1)).map iD) []⟩) (fun p=>all.length-p.1.1) ⟨(0,none),by simp⟩ ?_ ?_
 ·refine Weak.sub ?_
  simp[sub,upd]
 ·rintro⟨⟨k,g⟩,hka,hs⟩
  dsimp only at hka hs⊢
  have hfl:((x'y (all.take k)).map iD).length=k*1:=by simp[x'y];omega
  rcases z'i k all.length with hlt|hge
  ·have hd:decide ((k:Int)<(all.length:Int))=true:=by simp;omega
   have hw:IntKind.i64.wrap ((k:Int)+1)=((k+1:Nat):Int):=by rw[w64 (by omega)];omega
   obtain⟨r,hr⟩: ∃r,all[k]?=some r:=⟨_,z'c hlt⟩
   have hrow:(w'y all)[k]?=some [y'r r]:=by rw[v'3,hr];rfl
   have hrl:=hk.kr r (z'l hr)
   have c3:=ZeW r (by omega) md
   cases har:y'O r md with
   |false=>
    have hA:(all.all fun r=>y'O r md)=false:=v'k (p:=fun r=>y'O r md) hr har
    rw[Za8 (by simp only[w'1,hA,w'G,v'V])]
    repeat' first|refine mq2 (x'f @hd @hrow @har @y'C) c3 ?_|refine .wk ?_ ?_;focus(try omega)|exact y'B T (z'a _) ⟨rfl,rfl⟩|fail
   |true=>
    repeat' first|refine mq2 (x'V @hd @hw @hrow @har @y'C @z'o) c3 ?_|refine .wk ?_ ?_;focus(try omega)|refine vs T rfl fun K hK=>?_;(try simp (disch:=omega) only[go_sem,Nat.reduceBEq,Nat.reduceMul,Nat.reduceLeDiff,hd,hw,hrow,har,y'C,z'o,z'P]);(first|refine⟨_,_,_,_,(by repeat (exact Sp.here)),?_,(by exact⟨rfl,rfl⟩),⟨by decide,?_⟩,fun g' hg'=>hK _ _ ?_⟩<;>clear hK K)|fail
    ·exact hfl
    ·omega
    ·refine⟨⟨(k+1,g'),by simp only[];omega,Zah hs hr har⟩,z'Q ?_ ?_,by simp only[];omega⟩
     ·simp only[]
      rw[Zip hr]
     ·simp[sub,upd]
  ·have hd:decide ((k:Int)<(all.length:Int))=false:=by simp;omega
   have hA:(all.all fun r=>y'O r md)=true:=ZaR fun i y hi hy=>hs i y (by omega) hy
   obtain rfl:k=all.length:=by omega
   have hta:all.take all.length=all:=y'g
   have c4:=y'7 l kl (x'y all) (by rw[Zan];omega) own.length mem.length
   refine ZaD (t:=12) (g:=g) rfl fun hg=>?_
   have hV:w'1 l md own all mem=y'G l (x'y all) own.length mem.length:=by simp[w'1,ho,hmm,hA,z'w.1 m2,z'w.1 m16]
   have hfz: ∀H:Heap,H=shp g 3 1 ((x'y all).map iD) []→FzL H [z'S l,y'r (x'y all),iD own.length,iD mem.length] [z'S l,.gs g all.length,iD own.length,iD mem.length]:=fun H hH=>by
    refine x'o ?_
    have:=w'H (g:=g) (e:=3) (s:=x'y all) (H:=H) (by rw[Zan];exact hg) (fun b cap hb=>by rw[hH,hb];exact z'z ..)
    rw[Zan]at this
    exact this
   rw[hta]
   repeat' first|refine vs T rfl fun K hK=>?_;(try simp (disch:=omega) only[go_sem,Nat.reduceBEq,hd,y'C,z'o]);(first|refine hK _ _ ?_;clear hK K|skip)|refine st rfl ?_|refine sc rfl ?_|refine nl ?_
   refine Op1.lend rfl rfl c4 (hfz _ rfl) (.inr rfl) ?_
   refine hK _ _ ?_
   clear hK K
   cases hC:y'G l (x'y all) own.length mem.length with
   |false=>
    rw[Za8 (by rw[hV,hC])]
    repeat' first|refine mq0 ?_|exact y'B T (z'a _) ⟨rfl,rfl⟩|fail
   |true=>
    rw[hC]at hV
    have hD:valD2 l md own all mem= .tup [iD ((ZdO md own all mem l []).getD 0 0),bD true]:=by simp[valD2,Zcc,hV]
    have hOk:l.all (y'y (x'y all) own.length mem.length)=true∧oneL (w'i l 0 0)=true:=by simpa[y'G]using hC
    rw[hD]
    repeat' first|refine mq0 ?_|fail
    refine VC.loop {p:Nat×List Int×Option (Nat×Nat)//RunI md own all mem l p.1 p.2.1} (fun p=>⟨z'T [(0,z'S l),(1,iD md),(2,y'r own),(3,.sl false 1 (w'y all)),(4,y'r mem),(14,.gs p.1.2.2 p.1.2.1.length),(15,iD (p.1.1:Nat))],shp p.1.2.2 3 1 (p.1.2.1.map iD) []⟩) (fun p=>l.length-p.1.1) ⟨(0,[],none),RunI.zero hOk.2⟩ ?_ ?_
    ·refine Weak.subH (z'a _) ?_
     simp[sub,upd]
    ·rintro⟨⟨k,s,g⟩,hR⟩
     dsimp only at hR⊢
     have hle:=hR.le
     have hln:=hR.len
     have hsl:(s.map iD).length=s.length*1:=by simp
     rcases z'i k l.length with hlt|hge
     ·have hd:decide ((k:Int)<(l.length:Int))=true:=by simp;omega
      have hw:IntKind.i64.wrap ((k:Int)+1)=((k+1:Nat):Int):=by rw[w64 (by omega)];omega
      obtain⟨x,hx⟩: ∃x,l[k]?=some x:=⟨_,z'c hlt⟩
      have hrow:(w'l l)[k]?=some [iD x.1,iD x.2.1,iD x.2.2]:=by rw[Zdl,hx];rfl
      have hxo:y'y (x'y all) own.length mem.length x=true:=by
       have:=hOk.1
       rw[z'q]at this
       exact this x (z'l hx)
      have hm2:2≤md:=by omega
      obtain⟨⟨n',hn'⟩,hN⟩:=hR.next hm2 hx hxo ho hmm hA
      by_cases h1:x.1=1
      ·have e1:(x.1 == 1)=true:=by simpa using h1
       have hst:w'c md own all mem s x=s++[x.2.1.tmod md]:=by simp[w'c,h1]
       rw[hst]at hN
       have hmd:md≠0:=by omega
       repeat' first|refine mq1 (x'V @hd @hw @hrow @e1 @hmd @z'C) ?_|refine mqn fun bq hbq=>?_|refine .wk ?_ ?_;focus(try omega)|refine vs T rfl fun K hK=>?_;(try simp (disch:=omega) only[go_sem,Nat.reduceBEq,Nat.reduceAdd,Nat.reduceMul,Nat.reduceLeDiff,hd,hw,hrow,e1,hmd,ne_eq,not_false_eq_true,z'C]);(first|refine⟨_,_,_,_,(by repeat (first|exact Sp.here|apply Sp.cons)),?_,(by exact⟨rfl,rfl⟩),⟨by decide,?_⟩,fun g' hg'=>hK _ _ ?_⟩<;>clear hK K)|fail
       ·exact hsl
       ·omega
       ·refine⟨⟨(k+1,_,g'),hN⟩,y'U ?_ ?_,by simp only[];omega⟩
        ·simp
        ·simp[sub,upd]
      have e1:(x.1 == 1)=false:=by simpa using h1
      by_cases h2:x.1=2
      ·have e2:(x.1 == 2)=true:=by simpa using h2
       have hst:w'c md own all mem s x=s++[own.getD x.2.1.toNat 0]:=by simp[w'c,h2]
       have hb:0≤x.2.1∧x.2.1<own.length:=x'e.1 (by simpa[y'y,h2]using hxo)
       obtain⟨v,hv⟩: ∃v,own[x.2.1.toNat]?=some v:=⟨_,z'c (by omega)⟩
       have rv:(iRs own)[x.2.1.toNat]?=some [iD v]:=by rw[x'q,hv];rfl
       rw[hst,z'g,hv,z'y]at hN
       repeat' first|refine mq1 (Za1 @hd @hw @hrow @e1 @e2 @rv @z'C @z'o) ?_|refine mqn fun bq hbq=>?_|refine .wk ?_ ?_;focus(try omega)|refine vs T rfl fun K hK=>?_;(try simp (disch:=omega) only[go_sem,Nat.reduceBEq,Nat.reduceAdd,Nat.reduceMul,Nat.reduceLeDiff,hd,hw,hrow,e1,e2,rv,z'C,z'o]);(first|refine⟨_,_,_,_,(by repeat (first|exact Sp.here|apply Sp.cons)),?_,(by exact⟨rfl,rfl⟩),⟨by decide,?_⟩,fun g' hg'=>hK _ _ ?_⟩<;>clear hK K)|fail
       ·exact hsl
       ·omega
       ·refine⟨⟨(k+1,_,g'),hN⟩,y'U ?_ ?_,by simp only[];omega⟩
        ·simp
        ·simp[sub,upd]
      have e2:(x.1 == 2)=false:=by simpa using h2
      by_cases h3:x.1=3
      ·have e3:(x.1 == 3)=true:=by simpa using h3
       have hst:w'c md own all mem s x=s++[mem.getD x.2.1.toNat 0]:=by simp[w'c,h3]
       have hb:0≤x.2.1∧x.2.1<mem.length:=x'e.1 (by simpa[y'y,h3]using hxo)
       obtain⟨v,hv⟩: ∃v,mem[x.2.1.toNat]?=some v:=⟨_,z'c (by omega)⟩
       have rv:(iRs mem)[x.2.1.toNat]?=some [iD v]:=by rw[x'q,hv];rfl
       rw[hst,z'g,hv,z'y]at hN
       repeat' first|refine mq1 (v'1 @hd @hw @hrow @e1 @e2 @e3 @rv @z'C @z'o) ?_|refine mqn fun bq hbq=>?_|refine .wk ?_ ?_;focus(try omega)|refine vs T rfl fun K hK=>?_;(try simp (disch:=omega) only[go_sem,Nat.reduceBEq,Nat.reduceAdd,Nat.reduceMul,Nat.reduceLeDiff,hd,hw,hrow,e1,e2,e3,rv,z'C,z'o]);(first|refine⟨_,_,_,_,(by repeat (first|exact Sp.here|apply Sp.cons)),?_,(by exact⟨rfl,rfl⟩),⟨by decide,?_⟩,fun g' hg'=>hK _ _ ?_⟩<;>clear hK K)|fail
       ·exact hsl
       ·omega
       ·refine⟨⟨(k+1,_,g'),hN⟩,y'U ?_ ?_,by simp only[];omega⟩
        ·simp
        ·simp[sub,upd]
      have e3:(x.1 == 3)=false:=by simpa using h3
      by_cases h4:x.1=4
      ·have e4:(x.1 == 4)=true:=by simpa using h4
       have hst:w'c md own all mem s x=s++[(all.getD x.2.2.toNat []).getD x.2.1.toNat 0]:=by simp[w'c,h4]
       have hok4:inB x.2.2 (x'y all).length=true∧inB x.2.1 (((x'y all)[x.2.2.toNat]?).getD 0)=true:=by simpa[y'y,h4]using hxo
       have hb:=x'e.1 hok4.1
       rw[Zan]at hb
       obtain⟨r,hr⟩: ∃r,all[x.2.2.toNat]?=some r:=⟨_,z'c (by omega)⟩
       have hlr:(x'y all)[x.2.2.toNat]?=some (r.length:Int):=by simp[x'y,hr]
       have hb2:=x'e.1 hok4.2
       rw[hlr,z'y]at hb2
       obtain⟨v,hv⟩: ∃v,r[x.2.1.toNat]?=some v:=⟨_,z'c (by omega)⟩
       have rr:(w'y all)[x.2.2.toNat]?=some [y'r r]:=by rw[v'3,hr];rfl
       have rv:(iRs r)[x.2.1.toNat]?=some [iD v]:=by rw[x'q,hv];rfl
       rw[hst,z'g (l:=all),hr,z'y,z'g,hv,z'y]at hN
       repeat' first|refine dr (id:=29) T 11 (by kernel_rfl) ?_|(first|apply VCg.step T rfl rfl|apply exF);focus((try simp (disch:=omega) only[go_sem,Nat.reduceBEq,Nat.reduceMul,Nat.reduceLeDiff,rr,rv,z'o,y'C]);(first|exact rfl|refine⟨?_,rfl⟩;try omega))|refine mq1 (Za1 @hd @hw @hrow @e1 @e2 @e3 @e4 @z'C) ?_|refine mqn fun bq hbq=>?_|refine .wk ?_ ?_;focus(try omega)|refine vs T rfl fun K hK=>?_;(try simp (disch:=omega) only[go_sem,Nat.reduceBEq,Nat.reduceAdd,Nat.reduceLeDiff,hd,hw,hrow,e1,e2,e3,e4,z'C]);(first|refine⟨_,_,_,_,(by repeat (first|exact Sp.here|apply Sp.cons)),?_,(by exact⟨rfl,rfl⟩),⟨by decide,?_⟩,fun g' hg'=>hK _ _ ?_⟩<;>clear hK K)|fail
       ·exact hsl
       ·omega
       ·refine⟨⟨(k+1,_,g'),hN⟩,y'U ?_ ?_,by simp only[];omega⟩
        ·simp
        ·simp[sub,upd]
      have e4:(x.1 == 4)=false:=by simpa using h4
      refine ZaD (t:=14) (g:=g) rfl fun hg=>?_
      have hge:1≤s.length:=by
       unfold y'v at hn'
       rw[if_neg (by omega)]at hn'
       split at hn'
       ·omega
       ·split at hn'
        ·omega
        ·cases hn'
      rcases g with _|⟨b,cap⟩
      ·have:s.length=0:=hg
       omega
      have hgc:s.length≤cap:=hg
      simp only[shp]
      obtain⟨a1,ha1⟩: ∃a,s[s.length-1]?=some a:=⟨_,z'c (by omega)⟩
      have w1:IntKind.i64.wrap ((s.length:Int)-1)=((s.length-1:Nat):Int):=by rw[w64 (by omega)];omega
      have i1:=Zcg hR.inm ha1
      by_cases h5:x.1=5
      ·have e5:(x.1 == 5)=true:=by simpa using h5
       have hst:w'c md own all mem s x=s.set (s.length-1) (tI (a1 == 0)):=by simp only[w'c,h5,z'g,ha1];rfl
       rw[hst]at hN
       repeat' first|refine mq2 (Zfw @hd @hw @hrow @e1 @e2 @e3 @e4 @e5 @w1 @ha1 @y'd @z'C) (w'z ·) ?_|refine mqn fun bq hbq=>?_|refine .wk ?_ ?_;focus(try omega)|fail
       refine⟨⟨(k+1,_,some (b,cap)),hN⟩,y'U ?_ ?_,by simp only[];omega⟩
       ·simp[shp,y'P]
       ·simp[sub,upd]
      have e5:(x.1 == 5)=false:=by simpa using h5
      have h6:(6≤x.1∧x.1≤14)∧2≤s.length:=by
       unfold y'v at hn'
       rw[if_neg (by omega),if_neg (by omega)]at hn'
       split at hn'
       ·omega
       ·cases hn'
      obtain⟨a2,ha2⟩: ∃a,s[s.length-2]?=some a:=⟨_,z'c (by omega)⟩
      have w2:IntKind.i64.wrap ((s.length:Int)-2)=((s.length-2:Nat):Int):=by rw[w64 (by omega)];omega
      have i2:=Zcg hR.inm ha2
      have hst:w'c md own all mem s x=(s.set (s.length-2) (x'B x.1 a2 a1 md)).take (s.length-1):=by simp only[w'c,h1,h2,h3,h4,h5,if_false,z'g,ha1,ha2,z'y]
      rw[hst]at hN
      have cl:=ZrP x.1 a2 a1 md (by omega) (by omega) (by omega)
      repeat' first|refine dr (id:=19) T 13 (by kernel_rfl) ?_|(first|apply VCg.step T rfl rfl|apply exF);focus((try simp (disch:=omega) only[go_sem,Nat.reduceBEq,w1,w2,ha1,ha2,y'd]);(first|exact rfl|refine⟨?_,rfl⟩;try omega))|refine mq2 (Zfw @hd @hw @hrow @e1 @e2 @e3 @e4 @e5 @w1 @w2 @y'd @z'C) cl ?_|refine mqn fun bq hbq=>?_|refine .wk ?_ ?_;focus(try omega)|fail
      have hlen:((s.set (s.length-2) (x'B x.1 a2 a1 md)).take (s.length-1)).length=s.length-1:=by rw[z'L,x'w];omega
      refine⟨⟨(k+1,_,some (b,cap)),hN⟩,?_,by simp only[];omega⟩
      refine Weak.trans (y'U (H':=[(b,.cells _ _ ((s.set (s.length-2) (x'B x.1 a2 a1 md)).map iD))]) ?_ ?_) Weak.cutC
      ·simp[shp,y'P]
      ·rw[hlen]
       simp[sub,upd]
     ·have hd:decide ((k:Int)<(l.length:Int))=false:=by simp;omega
      obtain⟨hr1,hr2⟩:=hR.last (by omega)
      refine ZaD (t:=14) (g:=g) rfl fun hg=>?_
      rcases g with _|⟨b,cap⟩
      ·have:s.length=0:=hg
       omega
      obtain⟨v,hv⟩: ∃v,s[0]?=some v:=⟨_,z'c (by omega)⟩
      rw[←hr1,z'g,hv,z'y]
      simp only[shp]
      repeat' first|refine mq1 (x'f @hd @hv @hr2 @z'C) ?_|refine .wk ?_ ?_;focus(try omega)|exact y'B T (z'a _) ⟨rfl,rfl⟩|fail
end Go.Proofs.YthlkpnjjkgmlkaaGreat
