/- Copies, as the reference makes them. No condition. -/
import Derived.Test.YthlkpnjjkgmlkaaGreatYd
import Derived.Test.YthlkpnjjkgmlkaaGreatYlf
namespace Go.Proofs.YthlkpnjjkgmlkaaGreat
set_option maxHeartbeats 16000000
set_option linter.unusedSimpArgs false
set_option linter.unusedVariables false
set_option maxRecDepth 20000
open Go Go.Proofs Go.Vc
attribute [local irreducible] x'v VCg VCw VCx
theorem Zgd {H X:Heap} (h:(H++X).blocks.Nodup): ∀b,b∈H.blocks→b∉X.blocks:=by
 simp only[Heap.blocks,z'E]at h
 obtain⟨_,_,h3⟩:=y'4.1 h
 exact fun b hp hr=>h3 b hp b hr rfl
theorem Weak.fzs {env:Nat→D} {H X:Heap} {g:G} {e:TypeId} {esz:Nat} {rows:List (List D)} {t:Nat} (hp:H.Perm (shp g e esz rows.flatten X)) (hn:env t= .gs g rows.length) (hr: ∀r,r∈rows→r.length=esz):
  Weak ⟨env,H⟩ ⟨upd env t (.sl false esz rows),X⟩:=fun x a w h=>by
 have h2:=Weak.perm hp x a w h
 have hg:gOk g rows.length:=by
  have:=h.env t
  simp only at this
  rw[hn]at this
  exact this.2
 have hnd:=h2.inv.nodup
 have hsplit:shp g e esz rows.flatten X=shp g e esz rows.flatten []++X:=by rw[Zjl];rfl
 refine Weak.fz (H1:=shp g e esz rows.flatten []) ?_ ?_ ?_ x a w h2
 ·rw[hn]
  exact ZcB (e:=e) rfl hg (fun b cap hb=>by rw[hb];exact x'J) (FzR.refl _ _ hr)
 ·intro b c hm
  have hm':(b,c)∈shp g e esz rows.flatten X:=by rw[hsplit];exact y'J _ hm
  refine⟨hm',?_⟩
  simp only at hnd
  rw[hsplit]at hnd
  exact Zgd hnd b (z'D.2 ⟨_,hm,rfl⟩)
 ·show X.Sublist (shp g e esz rows.flatten X)
  rw[hsplit]
  exact List.sublist_append_right _ _
theorem FzL.length {H:Heap}: ∀{l' l:List D},FzL H l' l→l'.length=l.length
 |[],_,h=>by cases h;rfl
 |_::_,_,h=>by
  obtain⟨d,ds,rfl,_,h2⟩:=h
  rw[z'r,z'r,FzL.length h2]
theorem Weak.fzc {env:Nat→D} {b n:Nat} {e:TypeId} {l l':List D} {X H1:Heap} (h:FzL H1 l' l):Weak ⟨env,(b,.cells e n l)::(X++H1)⟩ ⟨env,(b,.cells e n l')::X⟩:=fun x a w hs=>by
 have hsub:((b,HC.cells e n l)::X).Sublist ((b,HC.cells e n l)::(X++H1)):=(List.sublist_append_left _ _).cons_cons _
 have h1:=Weak.heap hsub x a w hs
 have hnd:=hs.inv.nodup
 have hnot: ∀k,k∈H1.blocks→k∉Heap.blocks ((b,HC.cells e n l)::X):=fun k hk hm=>by
  simp only at hnd
  have:((b,HC.cells e n l)::(X++H1))=((b,HC.cells e n l)::X)++H1:=rfl
  rw[this]at hnd
  exact Zgd hnd k hm hk
 have hlv:live ((b,HC.cells e n l')::X) x.L0=live ((b,HC.cells e n l)::X) x.L0:=rfl
 refine{env:=fun t=>by rw[hlv];exact h1.env t,inv:=?_,evo:=?_,defers:=h1.defers,size:=h1.size}
 ·refine{rel:=fun k c hm=>?_,nodup:=h1.inv.nodup,apart:=h1.inv.apart,old:=h1.inv.old}
  rw[hlv]
  rcases z'F.1 hm with hm|hm
  ·cases hm
   obtain⟨q1,arr,q2,q3,q4⟩:=hs.inv.rel b _ (z'z ..)
   refine⟨FzL.one h q1,arr,q2,q3,?_⟩
   rw[FzL.length h]
   refine RelL.fz (H1:=H1) ⟨hs.inv,fun k c hk=>⟨z'd _ (x'D _ hk),fun hl=>?_⟩,fun k _ hl=>hl.imp id (SubH.blocks hsub k)⟩ _ _ _ h q4
   rcases hl with hl|hl
   ·exact hs.inv.apart k (z'D.2 ⟨(k,c),z'd _ (x'D _ hk),rfl⟩) hl
   ·exact hnot k (z'D.2 ⟨(k,c),hk,rfl⟩) hl
  ·exact h1.inv.rel k c (z'd _ hm)
 ·exact⟨h1.evo.os,h1.evo.tape,h1.evo.output,h1.evo.size,h1.evo.block,h1.evo.fresh⟩
theorem FzL.append {H:Heap}: ∀{l' l m' m:List D},FzL H l' l→FzL H m' m→FzL H (l'++m') (l++m)
 |[],_,_,_,h,h2=>by cases h;exact h2
 |_::_,_,_,_,h,h2=>by
  obtain⟨d,ds,rfl,q1,q2⟩:=h
  exact⟨d,ds++_,rfl,q1,FzL.append q2 h2⟩
theorem y'5 {b cap:Nat} {e:TypeId} {esz:Nat} {l:List D} {X:Heap}:shp (some (b,cap)) e esz l X=(b,.cells e (cap*esz) l)::X:=rfl
theorem w'U (c:Cf) (hc:OkC c):Fun Tryz.prog 99 [.agg (cfC c)] [] false (fun d H'=> ∃q:OC,q.ok c∧d= .agg (q.cs c)∧H'=q.h c []):=by
 have kp:=hc.pc
 have kr:=hc.regs
 have km:=hc.mem
 have kb:=hc.bufs
 refine Fun.of T [.cell 2 69] Tryz.func99 rfl Tryz.ntmps99 Tryz.results99 rfl (by kernel_rfl) ?_
 repeat' first|refine vb rfl rfl rfl rfl ?_|refine vs T rfl fun K hK=>?_;(try simp (disch:=omega) only[go_sem,Nat.reduceBEq,Nat.reduceAdd,Nat.reduceLeDiff,Zkn,z'o,y'i]);(first|refine hK _ _ ?_;clear hK K|refine⟨_,_,_,_,(by repeat (first|apply Sp.cons|exact Sp.nil)),?_,(by exact⟨rfl,rfl⟩),⟨by decide,?_⟩,fun g' hg'=>hK _ _ ?_⟩<;>clear hK K|intro bq hbq;(try simp only[HB]at hbq);refine hK _ _ ?_;clear hK K)|refine st rfl ?_|refine nl ?_
 ·rfl
 ·omega
 ·rfl
 ·omega
 rename_i b2 hb2 gp hgp
 revert g'
 intro gm hgm
 refine VC.loop {p:Nat×G×OR//(p.1≤c.regs.length∧gOk p.2.1 p.1)∧p.2.2.map (·.2)=c.regs.take p.1∧ ∀x,x∈p.2.2→gOk x.1 x.2.length} (fun p=>⟨z'T [(1,.pt (cfC c)),(2,.is (.pointer (some ⟨b2,0,none⟩))),(3,.is (.pointer (some ⟨bq,0,none⟩))),(4,iD (p.1.1:Nat))],(bq,.cells 69 4 [.gs gp c.pc.length,.gs p.1.2.1 p.1.1,.gs gm c.mem.length,.gs none 0])::(b2,.cells 69 4 [.gs none 0,.gs none 0,.gs none 0,.gs none 0])::shp p.1.2.1 29 1 (rgC p.1.2.2) (rgH p.1.2.2 (shp gm 3 1 (c.mem.map iD) (shp gp 3 1 (c.pc.map iD) [])))⟩) (fun p=>c.regs.length-p.1.1) ⟨(0,none,[]),by simp[gOk]⟩ ?_ ?_
 ·refine Weak.sub ?_
  simp[sub,upd]
 rintro⟨⟨k,gr,rs⟩,⟨hk,hgr⟩,hrs,hg⟩
 dsimp only at hk hgr hrs hg⊢
 have hrl:rs.length=k:=by
  have:=congrArg List.length hrs
  rw[z'm,z'L]at this
  omega
 have hfl:(rgC rs).length=k*1:=by rw[Ztq];omega
 rcases z'i k c.regs.length with hlt|hge
 ·have hd:decide ((k:Int)<(c.regs.length:Int))=true:=by simp;omega
  have hw:IntKind.i64.wrap ((k:Int)+1)=((k+1:Nat):Int):=by rw[w64 (by omega)];omega
  obtain⟨r,hx⟩: ∃r,c.regs[k]?=some r:=⟨_,z'c hlt⟩
  have hrow:(w'y c.regs)[k]?=some [y'r r]:=by rw[v'3,hx];rfl
  have hrr:=hc.row r (z'l hx)
  repeat' first|refine vs T rfl fun K hK=>?_;(try simp (disch:=omega) only[go_sem,Nat.reduceBEq,Nat.reduceAdd,Nat.reduceMul,Nat.reduceLeDiff,hd,hw,hrow,y'C,Zkn,z'o,y'i]);(first|refine hK _ _ ?_;clear hK K|refine⟨_,_,_,_,(by repeat (first|exact Sp.here|apply Sp.cons|exact Sp.nil|apply Sp.over)),?_,(by exact⟨rfl,rfl⟩),⟨by decide,?_⟩,fun g' hg'=>hK _ _ ?_⟩<;>clear hK K|refine⟨?_,hK _ _ ?_⟩<;>clear hK K;focus(try omega))|refine st rfl ?_|refine sc rfl ?_|refine nl ?_
  ·rfl
  ·omega
  ·exact hfl
  ·omega
  rename_i q hq
  refine⟨⟨(k+1,g',rs++[(q,r)]),⟨by simp only[];omega,hg'⟩,?_,?_⟩,?_,by simp only[];omega⟩
  ·simp only[]
   rw[z'E,hrs,x'U,hx];rfl
  ·intro p hp
   rcases y'2.1 hp with hp|hp
   ·exact hg p hp
   ·rw[y'F]at hp;subst hp;exact hq
  ·have hrc:rgC (rs++[(q,r)])=rgC rs++[.gs q r.length]:=by simp[rgC]
   refine Weak.trans (Weak.perm (H':=(bq,.cells 69 4 [.gs gp c.pc.length,.gs g' (k+1),.gs gm c.mem.length,.gs none 0])::(b2,.cells 69 4 [.gs none 0,.gs none 0,.gs none 0,.gs none 0])::shp g' 29 1 (rgC (rs++[(q,r)])) (rgH (rs++[(q,r)]) (shp gm 3 1 (c.mem.map iD) (shp gp 3 1 (c.pc.map iD) [])))) (y'X fun a=>by rw[hrc];simp only[Zl1,y'6,x'l,y'z,y'M,y'V];omega)) (Weak.sub ?_)
   simp[sub,upd]
 have hd:decide ((k:Int)<(c.regs.length:Int))=false:=by simp;omega
 obtain rfl:k=c.regs.length:=by omega
 rw[y'g]at hrs
 repeat' first|refine mq1 (z'X @hd @y'C) ?_|fail
 refine VC.loop {p:Nat×G//p.1≤c.bufs.length∧gOk p.2 p.1} (fun p=>⟨z'T [(1,.pt (cfC c)),(2,.is (.pointer (some ⟨b2,0,none⟩))),(3,.is (.pointer (some ⟨bq,0,none⟩))),(6,iD (p.1.1:Nat))],(bq,.cells 69 4 [.gs gp c.pc.length,.gs gr c.regs.length,.gs gm c.mem.length,.gs p.1.2 p.1.1])::(b2,.cells 69 4 [.gs none 0,.gs none 0,.gs none 0,.gs none 0])::shp p.1.2 119 1 ((c.bufs.take p.1.1).map buf) (shp gr 29 1 (rgC rs) (rgH rs (shp gm 3 1 (c.mem.map iD) (shp gp 3 1 (c.pc.map iD) []))))⟩) (fun p=>c.bufs.length-p.1.1) ⟨(0,none),by simp[gOk]⟩ ?_ ?_
 ·refine Weak.sub ?_
  simp[sub,upd]
 rintro⟨⟨j,gb⟩,hj,hgb⟩
 dsimp only at hj hgb⊢
 have hfl2:((c.bufs.take j).map buf).length=j*1:=by rw[z'm,z'L];omega
 rcases z'i j c.bufs.length with hlt|hge
 ·have hd:decide ((j:Int)<(c.bufs.length:Int))=true:=by simp;omega
  have hw:IntKind.i64.wrap ((j:Int)+1)=((j+1:Nat):Int):=by rw[w64 (by omega)];omega
  obtain⟨r,hx⟩: ∃r,c.bufs[j]?=some r:=⟨_,z'c hlt⟩
  have hrow:(w'o c.bufs)[j]?=some [buf r]:=by rw[x'P,hx];rfl
  have hrr:=hc.buf r (z'l hx)
  repeat' first|refine vs T rfl fun K hK=>?_;(try simp (disch:=omega) only[go_sem,Nat.reduceBEq,Nat.reduceAdd,Nat.reduceMul,Nat.reduceLeDiff,hd,hw,hrow,y'm,z'R,y'i]);(first|refine hK _ _ ?_;clear hK K|refine⟨_,_,_,_,(by repeat (first|exact Sp.here|apply Sp.cons|apply Sp.over)),?_,(by exact⟨rfl,rfl⟩),⟨by decide,?_⟩,fun g' hg'=>hK _ _ ?_⟩<;>clear hK K|refine⟨_,_,_,_,(by repeat (first|apply Sp.cons|exact Sp.nil)),?_,(by exact⟨rfl,rfl⟩),?_,fun g' hg'=>hK _ _ ?_⟩<;>clear hK K|refine⟨?_,hK _ _ ?_⟩<;>clear hK K;focus(try omega))|refine st rfl ?_|refine sc rfl ?_|refine nl ?_
  ·rfl
  ·omega
  ·exact hfl2
  ·omega
  rename_i q hq
  rcases g' with _|⟨bb,cap⟩
  ·have:j+1=0:=hg'
   omega
  have htk:(c.bufs.take (j+1)).map buf=(c.bufs.take j).map buf++[buf r]:=by
   rw[x'U,hx]
   simp
  refine⟨⟨(j+1,some (bb,cap)),by simp only[];omega,hg'⟩,?_,by simp only[];omega⟩
  refine Weak.trans (Weak.perm (H':=(bb,.cells 119 (cap*1) ((c.bufs.take j).map buf++[.gs q r.length]))::(((bq,.cells 69 4 [.gs gp c.pc.length,.gs gr c.regs.length,.gs gm c.mem.length,.gs (some (bb,cap)) (j+1)])::(b2,.cells 69 4 [.gs none 0,.gs none 0,.gs none 0,.gs none 0])::(shp gr 29 1 (rgC rs) (rgH rs (shp gm 3 1 (c.mem.map iD) (shp gp 3 1 (c.pc.map iD) [])))))++shp q 201 2 (eRs r).flatten []))
   (y'X fun a=>by simp only[y'5,y'6,x'l,y'z,y'M,y'V];omega)) ?_
  refine Weak.trans (Weak.fzc (l':=(c.bufs.take j).map buf++[buf r]) (FzL.append (FzL.refl _ _) (z'u (ZaB hq (z'R r) (ZaJ r)) x'9))) ?_
  refine Weak.trans (Weak.perm (H':=(bq,.cells 69 4 [.gs gp c.pc.length,.gs gr c.regs.length,.gs gm c.mem.length,.gs (some (bb,cap)) (j+1)])::(b2,.cells 69 4 [.gs none 0,.gs none 0,.gs none 0,.gs none 0])::shp (some (bb,cap)) 119 1 ((c.bufs.take (j+1)).map buf) (shp gr 29 1 (rgC rs) (rgH rs (shp gm 3 1 (c.mem.map iD) (shp gp 3 1 (c.pc.map iD) [])))))
   (y'X fun a=>by rw[htk];simp only[y'5,y'6,x'l,y'z,y'M,y'V];omega)) (Weak.sub ?_)
  simp[sub,upd]
 have hd:decide ((j:Int)<(c.bufs.length:Int))=false:=by simp;omega
 obtain rfl:j=c.bufs.length:=by omega
 rw[y'g]
 refine VC.weak (Weak.perm (H':=(bq,.cells 69 4 [.gs gp c.pc.length,.gs gr c.regs.length,.gs gm c.mem.length,.gs gb c.bufs.length])::(b2,.cells 69 4 [.gs none 0,.gs none 0,.gs none 0,.gs none 0])::(OC.mk gp gr gm gb rs).h c []) (y'X fun a=>by simp only[OC.h,y'6,x'l,y'z,y'M,y'V];omega)) ?_
 have hne: ¬bq=b2:=hbq
 repeat' first|refine mq1 (x'i @hd @y'm @OC.h.eq_1) ?_|fail
 refine ZdM T rfl (by(simp (disch:=omega) only[hget_ne,hget_eq]);rfl) rfl rfl rfl ((y'H _ _).trans (y'H _ _)) ⟨⟨gp,gr,gm,gb,rs⟩,⟨hgp,hgr,hgm,hgb,hrs,hg⟩,rfl,rfl⟩
theorem OpS.freeze {P:Program} {o:Oper} {E:Operand→D} {H:Heap} {Φ:D→Heap→Prop} {d':D} (h:OpS P o E H Φ) (hf: ∀d H',Φ d H'→ ∃Hk,H'=Hk++H∧Fz Hk d' d):OpS P o E H (fun d'' H''=>d''=d'∧H''=H):=by
 intro w L0 ε hi hx
 refine(h w L0 ε hi hx).mono fun v w' ⟨d,G',h1,h2,h3,h4⟩=>?_
 obtain⟨Hk,rfl,hz⟩:=hf d G' h1
 have hs:H.Sublist (Hk++H):=List.sublist_append_right _ _
 refine⟨d',H,⟨rfl,rfl⟩,?_,SubH.inv hs h3,SubH.evo hs h4⟩
 refine Rel.fz (H1:=Hk) (L:=live H L0) ⟨h3,fun b c hm=>⟨y'J _ hm,fun hl=>?_⟩,fun b _ hl=>hl.imp id (SubH.blocks hs b)⟩ d' d v hz h2
 rcases hl with hl|hl
 ·exact h3.apart b (z'D.2 ⟨(b,c),y'J _ hm,rfl⟩) hl
 ·exact Zgd h3.nodup b (z'D.2 ⟨(b,c),hm,rfl⟩) hl
theorem ZrW (n:Nat):Zbo n [.int .i64 0]=(List.replicate n (0:Int)).map iD:=by
 show(List.replicate n [iD 0]).flatten=_
 rw[List.map_replicate]
 induction n with
 |zero=>rfl
 |succ n ih=>rw[x'j,y'f,ih,x'j];rfl
theorem Zri {o:Oper} {E:Operand→D} {H:Heap} {l c:Operand} {n:Nat} (ho:o.op= .makeSlice 29 l c) (hl:E l=iD (n:Nat)) (hc:E c=iD (n:Nat)) (hn:n≤1000000):
  OpS Tryz.prog o E H (fun d' H'=>d'=y'r (List.replicate n 0)∧H'=H):=by
 have hcm:cMake (kdT (T.get 29)) (E l) (E c) H (fun d H'=> ∃k,d= .gs (some (k,n)) n∧H'=(k,.cells 3 (n*1) ((List.replicate n 0).map iD))::H):=by
  rw[hl,hc]
  show cMake (.slice 3 1 8 false [.int .i64 0]) _ _ _ _
  refine⟨⟨by omega,rfl,by rw[z'e];omega,by omega,rfl⟩,fun k hk=>⟨k,by rw[z'e],?_⟩⟩
  rw[z'e,ZrW]
 obtain⟨Φ,h1,h2⟩:=ZlX T (E:=E) (H:=H) (K:=fun d H'=> ∃k,d= .gs (some (k,n)) n∧H'=(k,.cells 3 (n*1) ((List.replicate n 0).map iD))::H) ho hcm
 refine OpS.freeze (OpS.mono h1 h2) fun d H' ⟨k,q1,q2⟩=>⟨[(k,.cells 3 (n*1) ((List.replicate n 0).map iD))],q2,?_⟩
 rw[q1]
 have:=w'H (g:=some (k,n)) (e:=3) (s:=List.replicate n 0) (H:=[(k,.cells 3 (n*1) ((List.replicate n 0).map iD))]) (by show(List.replicate n 0).length≤n;simp) (fun b cap hb=>by cases hb;exact z'z ..)
 rwa [v'6]at this
def x'3 (u:Un):Cf:=⟨List.replicate u.regs.length 0,u.regs.map fun n=>List.replicate n.toNat 0,u.init,List.replicate u.regs.length []⟩
def ZfI (n:Int):D:=y'r (List.replicate n.toNat 0)
theorem ZkD {H:Heap}: ∀(l:List Int),FzR H 1 (w'y (l.map fun n=>List.replicate n.toNat 0)) (l.map ZfI)
 |[]=>trivial
 |n::l=>⟨rfl,⟨_,_,rfl,Fz.refl _ _,trivial⟩,ZkD l⟩
theorem ZmF {H:Heap}: ∀n:Nat,FzR H 1 (w'o (List.replicate n [])) (List.replicate n (.gs none 0))
 |0=>trivial
 |n+1=>⟨rfl,⟨_,_,rfl,z'1,trivial⟩,ZmF n⟩
theorem ZiE {u:Un} (h:x'd u=true) {t:Nat} {n:Int} (hn:u.regs[t]?=some n):0≤n∧n≤6:=by
 unfold x'd at h
 simp only[z'f,z'q,z'U]at h
 have ht:=(z'b.1 hn).1
 have:=h.2 t ht
 simp only[Za3,z'f,decide_eq_true_eq]at this
 rw[z'g,hn]at this
 exact⟨this.1.1.1.1.1,this.1.1.1.1.2⟩
theorem ZrJ (u:Un) (hu:OkU u) (hU:x'd u=true):Pure Tryz.prog 76 [.agg (unC u)] (.tup [.agg (cfC (x'3 u)),iD 0]):=by
 have k1:=hu.ini
 have k2:=hu.reg
 have cu:=ZfD u hu
 rw[hU]at cu
 refine Fun.fz ?_
 refine Fun.of T [.cell 2 69,.tmp 3] Tryz.func76 rfl Tryz.ntmps76 Tryz.results76 rfl (by kernel_rfl) ?_
 repeat' first|refine vb rfl rfl rfl rfl ?_|refine mq3 cu ?_|refine mqn fun bq hbq=>?_|fail
 rename_i b2 hb2
 revert bq
 intro b4 hb4
 refine VC.loop {p:Nat×G×G×G//p.1≤u.regs.length∧gOk p.2.1 p.1∧gOk p.2.2.1 p.1∧gOk p.2.2.2 p.1} (fun p=>⟨z'T [(1,.pt (unC u)),(2,.is (.pointer (some ⟨b2,0,none⟩))),(4,.is (.pointer (some ⟨b4,0,none⟩))),(5,iD (p.1.1:Nat))],(b4,.cells 69 4 [.gs p.1.2.1 p.1.1,.gs p.1.2.2.1 p.1.1,.gs none 0,.gs p.1.2.2.2 p.1.1])::(b2,.cells 69 4 [.gs none 0,.gs none 0,.gs none 0,.gs none 0])::shp p.1.2.1 3 1 (List.replicate p.1.1 (iD 0)) (shp p.1.2.2.1 29 1 ((u.regs.take p.1.1).map ZfI) (shp p.1.2.2.2 119 1 (List.replicate p.1.1 (.gs none 0)) []))⟩) (fun p=>u.regs.length-p.1.1) ⟨(0,none,none,none),by simp[gOk]⟩ ?_ ?_
 ·refine Weak.sub ?_
  simp[sub,upd]
 rintro⟨⟨t,gp,gr,gb⟩,ht,hgp,hgr,hgb⟩
 dsimp only at ht hgp hgr hgb⊢
 rcases z'i t u.regs.length with hlt|hge
 ·have hd:decide ((t:Int)<(u.regs.length:Int))=true:=by simp;omega
  have hw:IntKind.i64.wrap ((t:Int)+1)=((t+1:Nat):Int):=by rw[w64 (by omega)];omega
  obtain⟨n,hn⟩: ∃n,u.regs[t]?=some n:=⟨_,z'c hlt⟩
  have hn6:=ZiE hU hn
  obtain⟨k,rfl⟩: ∃k:Nat,n=(k:Int):=⟨n.toNat,by omega⟩
  have rn:(iRs u.regs)[t]?=some [iD (k:Nat)]:=by rw[x'q,hn];rfl
  have hc1:(List.replicate t (iD 0)).length=t*1:=by simp
  have hc2:((u.regs.take t).map ZfI).length=t*1:=by rw[z'm,z'L];omega
  have hc3:(List.replicate t (D.gs none 0)).length=t*1:=by simp
  repeat' first|refine VCg.stepS T rfl rfl (Zri rfl rfl rfl (by omega)) ?_|refine dr (id:=8) T 9 (by kernel_rfl) ?_|apply VCg.step T rfl rfl;focus((try simp (disch:=omega) only[go_sem,Nat.reduceBEq,Nat.reduceMul,Nat.reduceLeDiff,rn,z'o]);(first|exact rfl|refine⟨?_,rfl⟩;try omega))|refine mq1 (x'i @hd @hw @z'o) ?_|refine vs T rfl fun K hK=>?_;(try simp (disch:=omega) only[go_sem,Nat.reduceBEq,Nat.reduceAdd,Nat.reduceMul,Nat.reduceLeDiff,hd,hw,z'o]);(first|refine⟨_,_,_,_,(by repeat (first|exact Sp.here|apply Sp.cons|apply Sp.over)),?_,(by exact⟨rfl,rfl⟩),⟨by decide,?_⟩,fun g' hg'=>hK _ _ ?_⟩<;>clear hK K)|fail
  all_goals first|exact hc1|exact hc2|exact hc3|omega|skip
  rename_i ga hga gc hgc
  have z1:List.replicate (t+1) (iD 0)=List.replicate t (iD 0)++[iD 0]:=List.replicate_succ'
  have z2:(u.regs.take (t+1)).map ZfI=(u.regs.take t).map ZfI++[y'r (List.replicate k 0)]:=by
   rw[x'U,hn]
   simp[ZfI]
  have z3:List.replicate (t+1) (D.gs none 0)=List.replicate t (D.gs none 0)++[D.gs none 0]:=List.replicate_succ'
  refine⟨⟨(t+1,ga,gc,g'),by simp only[];exact⟨by omega,hga,hgc,hg'⟩⟩,z'Q ?_ ?_,by simp only[];omega⟩
  ·simp only[]
   rw[z1,z2,z3]
  ·simp[sub,upd]
 ·have hd:decide ((t:Int)<(u.regs.length:Int))=false:=by simp;omega
  obtain rfl:t=u.regs.length:=by omega
  rw[y'g]
  repeat' first|refine vs T rfl fun K hK=>?_;(try simp (disch:=omega) only[go_sem,Nat.reduceBEq,Nat.reduceAdd,Nat.reduceLeDiff,hd,Zkn,z'o,y'i]);(first|refine hK _ _ ?_;clear hK K|refine⟨_,_,_,_,(by repeat (first|apply Sp.cons|exact Sp.nil)),?_,(by exact⟨rfl,rfl⟩),⟨by decide,?_⟩,fun g' hg'=>hK _ _ ?_⟩<;>clear hK K)|refine st rfl ?_|refine sc rfl ?_|refine nl ?_
  ·rfl
  ·omega
  have hb42: ¬b4=b2:=by
   intro h;simp_all
  refine x'8 T rfl (by(try simp (disch:=omega) only[hget_ne,hget_eq]);rfl) rfl rfl rfl (z'v _) ?_
  refine⟨_,rfl,z'u ⟨_,rfl,?_⟩ (FzL.refl _ _)⟩
  have m0: ∀{x:Nat×HC},x∈shp g' 3 1 (u.init.map iD) (shp gp 3 1 (List.replicate u.regs.length (iD 0)) (shp gr 29 1 (u.regs.map ZfI) (shp gb 119 1 (List.replicate u.regs.length (.gs none 0)) [])))→x∈((b4,HC.cells 69 4 [.gs gp u.regs.length,.gs gr u.regs.length,.gs g' u.init.length,.gs gb u.regs.length])::(b2,.cells 69 4 [.gs gp u.regs.length,.gs gr u.regs.length,.gs g' u.init.length,.gs gb u.regs.length])::shp g' 3 1 (u.init.map iD) (shp gp 3 1 (List.replicate u.regs.length (iD 0)) (shp gr 29 1 (u.regs.map ZfI) (shp gb 119 1 (List.replicate u.regs.length (.gs none 0)) [])))):=fun hx=>z'd _ (z'd _ hx)
  have f1:=fun(H:Heap) (hm: ∀b cap,gp=some (b,cap)→(b,HC.cells 3 (cap*1) ((List.replicate u.regs.length (0:Int)).map iD))∈H)=>w'H (g:=gp) (e:=3) (s:=List.replicate u.regs.length 0) (H:=H) (by rw[v'6];exact hgp) hm
  simp only[v'6]at f1
  refine z'u (f1 _ fun b cap hb=>m0 (w'w (by rw[hb,List.map_replicate];exact x'J))) (z'u ?_ (z'u ?_ (z'u ?_ x'9)))
  ·exact ZcB (e:=29) (l:=u.regs.map ZfI) (by rw[y'C];simp[x'3]) hgr (fun b cap hb=>m0 (w'w (w'w (by rw[hb];exact x'J)))) (ZkD u.regs)
  ·exact w'H (e:=3) (s:=u.init) hg' (fun b cap hb=>m0 (by rw[hb];exact x'J))
  ·exact ZcB (e:=119) (l:=List.replicate u.regs.length (.gs none 0)) (by rw[y'm];simp[x'3]) hgb (fun b cap hb=>m0 (w'w (w'w (w'w (by rw[hb];exact x'J))))) (ZmF _)
end Go.Proofs.YthlkpnjjkgmlkaaGreat
