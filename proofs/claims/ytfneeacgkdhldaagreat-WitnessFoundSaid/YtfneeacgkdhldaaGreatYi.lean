/- What a thread changes: a configuration of one's own. No condition. -/
import Derived.Test.YtfneeacgkdhldaaGreatYh
namespace Go.Proofs.YtfneeacgkdhldaaGreat
set_option maxHeartbeats 16000000
set_option linter.unusedSimpArgs false
set_option linter.unusedVariables false
set_option maxRecDepth 20000
open Go Go.Proofs Go.Vc
attribute [local irreducible] y'5 VCg VCw VCx
abbrev doO (u:Un) (q:OC) (c:Cf) (m r t:Int) (x:Ins):List D:=doC u (.gs q.gp c.pc.length) (.gs q.gr c.regs.length) (.gs q.gm c.mem.length) (.gs q.gb c.bufs.length) m r t x
def dW (bd:Nat) (u:Un) (q:OC) (c:Cf) (m r t:Int) (x:Ins):Heap:=(bd,.cells 202 18 (doO u q c m r t x))::q.h c []
abbrev pD (bd:Nat):D:= .is (.pointer (some ⟨bd,0,none⟩))
theorem FzL.toC {H:Heap}: ∀{l' l:List D},FzL H l' l→FzC H l' l
 |[],_,_=>trivial
 |_::_,_,h=>by
  obtain⟨d,ds,rfl,q1,q2⟩:=h
  exact⟨d,ds,rfl,q1,FzL.toC q2⟩
theorem Znc {bd:Nat} {u:Un} {q:OC} {c:Cf} {m r t:Int} {x:Ins} (h:q.ok c):Fz (dW bd u q c m r t x) (.pt (doF u c m r t x)) (pD bd):=by
 refine .inr ⟨bd,0,_,_,_,rfl,z'D ..,?_⟩
 have h1:=OC.fzL (H:=dW bd u q c m r t x) (X:=[]) h (fun x hx=>z'd _ hx)
 exact FzL.toC (FzL.append (l':=unC u) (l:=unC u) (FzL.refl _ _) (FzL.append h1 (FzL.refl _ [iD m,iD r,iD t,iD x.op,iD x.reg,iD x.loc,z'S x.e,z'S x.f,bD x.ne,iD x.to])))
theorem ZbR {bd:Nat} {u:Un} {q:OC} {c:Cf} {m r t:Int} {x:Ins} (h:q.ok c) (d:D):FzL (dW bd u q c m r t x) [.pt (doF u c m r t x),d] [pD bd,d]:=z't (Znc h) (z't (Fz.refl _ _) x'T)
theorem Zfy {bd:Nat} {u:Un} {q:OC} {c:Cf} {m r t:Int} {x:Ins} (h:q.ok c):FzL (dW bd u q c m r t x) [.pt (doF u c m r t x)] [pD bd]:=z't (Znc h) x'T
theorem Zo3 {bd:Nat} {u:Un} {q:OC} {c:Cf} {m r t:Int} {x:Ins} (h:q.ok c) (d1 d2:D):FzL (dW bd u q c m r t x) [.agg (cfC c),d1,d2] [.agg (q.cs c),d1,d2]:=
 z't ⟨_,rfl,OC.fzL (X:=[]) h (fun x hx=>z'd _ hx)⟩ (FzL.refl _ _)
mutual
theorem Fz.sub {H H':Heap} (h: ∀y,y∈H→y∈H'): ∀{d' d:D},Fz H d' d→Fz H' d' d
 | .sl full esz rows,d,hd=>by
  rcases hd with h0|⟨h1,h2⟩
  ·exact .inl h0
  ·refine .inr ⟨h1,?_⟩
   rcases h2 with h2|h2|⟨b,o,n,cap,q1,q2,e,k,l,q3,q4⟩
   ·exact .inl h2
   ·exact .inr (.inl h2)
   ·exact .inr (.inr ⟨b,o,n,cap,q1,q2,e,k,l,h _ q3,FzR.sub h q4⟩)
 | .pt row,d,hd=>by
  rcases hd with h0|⟨b,o,e,k,l,q1,q2,q3⟩
  ·exact .inl h0
  ·exact .inr ⟨b,o,e,k,l,q1,h _ q2,FzC.sub h q3⟩
 | .agg l',d,hd=>by obtain⟨l,rfl,q⟩:=hd;exact⟨l,rfl,FzL.sub h q⟩
 | .tup l',d,hd=>by obtain⟨l,rfl,q⟩:=hd;exact⟨l,rfl,FzL.sub h q⟩
 | .ifc t x',d,hd=>by obtain⟨x,rfl,q⟩:=hd;exact⟨x,rfl,Fz.sub h q⟩
 | .is v,d,hd=>hd
 | .gs g n,d,hd=>hd
 | .os b o n cap,d,hd=>hd
 | .any,d,hd=>hd
theorem FzL.sub {H H':Heap} (h: ∀y,y∈H→y∈H'): ∀{l' l:List D},FzL H l' l→FzL H' l' l
 |[],l,q=>q
 |d'::ds',l,q=>by obtain⟨d,ds,rfl,q1,q2⟩:=q;exact⟨d,ds,rfl,Fz.sub h q1,FzL.sub h q2⟩
theorem FzC.sub {H H':Heap} (h: ∀y,y∈H→y∈H'): ∀{l' l:List D},FzC H l' l→FzC H' l' l
 |[],l,q=>trivial
 |d'::ds',l,q=>by obtain⟨d,ds,rfl,q1,q2⟩:=q;exact⟨d,ds,rfl,Fz.sub h q1,FzC.sub h q2⟩
theorem FzR.sub {H H':Heap} {esz:Nat} (h: ∀y,y∈H→y∈H'): ∀{rows:List (List D)} {l:List D},FzR H esz rows l→FzR H' esz rows l
 |[],l,q=>trivial
 |r::rs,l,q=>⟨q.1,FzC.sub h q.2.1,FzR.sub h q.2.2⟩
end
def setP (c:Cf) (i:Nat) (n:Int):Cf:={c with pc:=c.pc.set i n}
def y'N (c:Cf) (k:Nat) (n:Int):Cf:={c with mem:=c.mem.set k n}
def x'v (c:Cf) (i:Nat) (b:List En):Cf:={c with bufs:=c.bufs.set i b}
def x'p (c:Cf) (i:Nat) (row:List Int):Cf:={c with regs:=c.regs.set i row}
theorem OC.okP {q:OC} {c:Cf} (h:q.ok c) (i:Nat) (n:Int):q.ok (setP c i n):=⟨by simpa[setP]using h.pc,h.gr,h.mem,h.bufs,h.rows,h.row⟩
theorem OC.okM {q:OC} {c:Cf} (h:q.ok c) (k:Nat) (n:Int):q.ok (y'N c k n):=⟨h.pc,h.gr,by simpa[y'N]using h.mem,h.bufs,h.rows,h.row⟩
theorem OC.okB {q:OC} {c:Cf} (h:q.ok c) (i:Nat) (b:List En):q.ok (x'v c i b):=⟨h.pc,h.gr,h.mem,by simpa[x'v]using h.bufs,h.rows,h.row⟩
theorem Zge (bd:Nat) (u:Un) (q:OC) (c:Cf) (hq:q.ok c) (m r:Int) (i:Nat) (hi:i<c.pc.length) (x:Ins) (n:Int):Fun Tryz.prog 164 [pD bd,iD n] (dW bd u q c m r (i:Nat) x) false
  (fun d H'=> ∃q':OC,q'.ok (setP c i n)∧d= .tup []∧H'=dW bd u q' (setP c i n) m r (i:Nat) x):=by
 have hq2:=OC.okP hq i n
 obtain⟨gp,gr,gm,gb,rs⟩:=q
 rcases gp with _|⟨b,cap⟩
 ·have h0:c.pc.length=0:=hq.pc
  omega
 refine Fun.of T [] Tryz.func164 rfl Tryz.ntmps164 Tryz.results164 rfl (by kernel_rfl) ?_
 show VC _ _ _ ⟨_,(bd,.cells 202 18 (doC u (.gs (some (b,cap)) c.pc.length) (.gs gr c.regs.length) (.gs gm c.mem.length) (.gs gb c.bufs.length) m r (i:Nat) x))::(b,.cells 3 (cap*1) (c.pc.map iD))::_⟩ _
 refine VC.nodup fun hn=>?_
 have hne: ¬bd=b:=fun h=>by subst h;simp[Heap.blocks]at hn
 repeat' first|refine dr (id:=0) T 10 (by kernel_rfl) ?_|refine gn ?_|apply VCg.step T rfl rfl;focus((try simp (disch:=omega) only[go_sem,Nat.reduceBEq,z'u]);(exact rfl))|refine vs T rfl fun K hK=>?_;(try simp (disch:=omega) only[go_sem,Nat.reduceBEq,z'u]);(refine⟨?_,hK _ _ ?_⟩<;>clear hK K;focus(try omega))|refine nl ?_
 exact ZaP T rfl (z'p _) ⟨⟨some (b,cap),gr,gm,gb,rs⟩,hq2,rfl,by simp[dW,OC.h,z'1,setP,y'n]⟩
theorem ZdN (bd:Nat) (u:Un) (q:OC) (c:Cf) (hq:q.ok c) (m r t:Int) (x:Ins) (hx:0≤x.loc∧x.loc<c.mem.length) (n:Int):Fun Tryz.prog 169 [pD bd,iD n] (dW bd u q c m r t x) false
  (fun d H'=> ∃q':OC,q'.ok (y'N c x.loc.toNat n)∧d= .tup []∧H'=dW bd u q' (y'N c x.loc.toNat n) m r t x):=by
 have hq2:=OC.okM hq x.loc.toNat n
 obtain⟨gp,gr,gm,gb,rs⟩:=q
 rcases gm with _|⟨b,cap⟩
 ·have h0:c.mem.length=0:=hq.mem
  omega
 refine Fun.perm (Φ:=fun d H'=>d= .tup []∧H'=(bd,.cells 202 18 (doC u (.gs gp c.pc.length) (.gs gr c.regs.length) (.gs (some (b,cap)) c.mem.length) (.gs gb c.bufs.length) m r t x))::(b,.cells 3 cap ((c.mem.map iD).set x.loc.toNat (iD n)))::shp gp 3 1 (c.pc.map iD) (shp gr 22 1 (rgC rs) (shp gb 117 1 (c.bufs.map buf) (rgH rs [])))) ?_
  (fun d H' ⟨h1,h2⟩=>⟨dW bd u ⟨gp,gr,some (b,cap),gb,rs⟩ (y'N c x.loc.toNat n) m r t x,by
   rw[h2]
   exact y'b fun a=>by simp only[dW,doO,OC.h,z'1,y'N,y'n,y'U,z'u,y'f,y'G,z'V,z'6,y'a];omega,⟨_,hq2,h1,rfl⟩⟩)
 refine Fun.of T [] Tryz.func169 rfl Tryz.ntmps169 Tryz.results169 rfl (by kernel_rfl) ?_
 refine VC.weak (Weak.perm (H':=(bd,.cells 202 18 (doC u (.gs gp c.pc.length) (.gs gr c.regs.length) (.gs (some (b,cap)) c.mem.length) (.gs gb c.bufs.length) m r t x))::(b,.cells 3 (cap*1) (c.mem.map iD))::shp gp 3 1 (c.pc.map iD) (shp gr 22 1 (rgC rs) (shp gb 117 1 (c.bufs.map buf) (rgH rs []))))
  (y'b fun a=>by simp only[dW,doO,OC.h,z'1,y'f,y'G,z'V,z'6,y'a];omega)) ?_
 refine VC.nodup fun hn=>?_
 have hne: ¬bd=b:=fun h=>by subst h;simp[Heap.blocks]at hn
 repeat' first|refine dr (id:=0) T 11 (by kernel_rfl) ?_|refine gn ?_|apply VCg.step T rfl rfl;focus((try simp (disch:=omega) only[go_sem,Nat.reduceBEq,Nat.reduceAdd,z'u]);(exact rfl))|refine vs T rfl fun K hK=>?_;(try simp (disch:=omega) only[go_sem,Nat.reduceBEq,z'u]);(refine⟨?_,hK _ _ ?_⟩<;>clear hK K;focus(try omega))|refine nl ?_
 exact ZaP T rfl (z'p _) ⟨rfl,rfl⟩
theorem Za7 {rs:OR} {l:List (List Int)} (h:rs.map (·.2)=l) {i:Nat} {row:List Int} (hr:l[i]?=some row): ∃pre post g,rs=pre++(g,row)::post∧pre.length=i∧l.set i=fun r'=>(pre++(g,r')::post).map (·.2):=by
 subst h
 have hi:=(z'c.1 hr).1
 rw[z's]at hi
 rw[y'c]at hr
 obtain⟨p,hp⟩: ∃p,rs[i]?=some p:=⟨_,z'b hi⟩
 rw[hp]at hr
 have hp2:p.2=row:=by simpa using hr
 have e:rs=rs.take i++p::rs.drop (i+1):=by
  have h1:rs.drop i=p::rs.drop (i+1):=by rw[y'0 hi];congr 1;exact y'k ((z'b hi).symm.trans hp)
  rw[←h1,v'X]
 have hl:(rs.take i).length=i:=by rw[z'F];omega
 refine⟨rs.take i,rs.drop (i+1),p.1,by rw[←hp2];exact e,hl,?_⟩
 funext r'
 conv=>lhs;rw[e]
 have hl2:(List.map (fun x:G×List Int=>x.2) (rs.take i)).length=i:=by rw[z's,hl]
 rw[z'E,z'E,List.set_append,if_neg (by omega),hl2,Nat.sub_self]
 rfl
theorem x'J: ∀(pre:OR) (p:G×List Int) (post:OR) (X:Heap),rgH (pre++p::post) X=rgH pre (shp p.1 3 1 (p.2.map iD) (rgH post X))
 |[],p,post,X=>rfl
 |q::pre,p,post,X=>by rw[y'i,rgH,rgH,x'J pre]
theorem Zek (bd:Nat) (u:Un) (q:OC) (c:Cf) (hq:q.ok c) (m r:Int) (i:Nat) (x:Ins) (row:List Int) (hr:c.regs[i]?=some row) (hx:0≤x.reg∧x.reg<row.length) (n:Int):
  Fun Tryz.prog 168 [pD bd,iD n] (dW bd u q c m r (i:Nat) x) false
  (fun d H'=> ∃q':OC,q'.ok (x'p c i (row.set x.reg.toNat n))∧d= .tup []∧H'=dW bd u q' (x'p c i (row.set x.reg.toNat n)) m r (i:Nat) x):=by
 have hil:=(z'c.1 hr).1
 obtain⟨gp,gr,gm,gb,rs⟩:=q
 rcases gr with _|⟨b,cap⟩
 ·have h0:c.regs.length=0:=hq.gr
  omega
 obtain⟨pre,post,gi,rfl,hpl,hset⟩:=Za7 hq.rows hr
 have hgi:gOk gi row.length:=hq.row (gi,row) (by simp)
 rcases gi with _|⟨bi,capi⟩
 ·have h0:row.length=0:=hgi
  omega
 have hrc:(rgC (pre++(some (bi,capi),row)::post))[i]?=some (.gs (some (bi,capi)) row.length):=by
  simp[rgC, ←hpl]
 have hrc2:rgC (pre++(some (bi,capi),row.set x.reg.toNat n)::post)=rgC (pre++(some (bi,capi),row)::post):=by simp[rgC]
 have hlr:(pre++(some (bi,capi),row)::post).length=c.regs.length:=by rw[←hq.rows,z's]
 have hq2:(OC.mk gp (some (b,cap)) gm gb (pre++(some (bi,capi),row.set x.reg.toNat n)::post)).ok (x'p c i (row.set x.reg.toNat n)):=by
  refine⟨hq.pc,by simpa[x'p]using hq.gr,hq.mem,hq.bufs,?_,?_⟩
  ·exact(congrFun hset _).symm
  ·intro p hp
   rcases y'g.1 hp with hp|hp
   ·exact hq.row p (y'B _ hp)
   ·rcases z'P.1 hp with rfl|hp
    ·simpa using hgi
    ·exact hq.row p (y'7 _ (z'd _ hp))
 refine Fun.perm (Φ:=fun d H'=>d= .tup []∧H'=(bd,.cells 202 18 (doC u (.gs gp c.pc.length) (.gs (some (b,cap)) c.regs.length) (.gs gm c.mem.length) (.gs gb c.bufs.length) m r (i:Nat) x))::(b,.cells 22 cap (rgC (pre++(some (bi,capi),row)::post)))::(bi,.cells 3 capi ((row.map iD).set x.reg.toNat (iD n)))::shp gp 3 1 (c.pc.map iD) (shp gm 3 1 (c.mem.map iD) (shp gb 117 1 (c.bufs.map buf) (rgH pre (rgH post []))))) ?_
  (fun d H' ⟨h1,h2⟩=>⟨dW bd u ⟨gp,some (b,cap),gm,gb,pre++(some (bi,capi),row.set x.reg.toNat n)::post⟩ (x'p c i (row.set x.reg.toNat n)) m r (i:Nat) x,by
   rw[h2]
   exact y'b fun a=>by simp only[dW,doO,OC.h,hrc2,x'J,z'1,x'p,y'n,y'U,z'u,y'f,y'G,z'V,z'6,y'a];omega,⟨_,hq2,h1,rfl⟩⟩)
 refine Fun.of T [] Tryz.func168 rfl Tryz.ntmps168 Tryz.results168 rfl (by kernel_rfl) ?_
 refine VC.weak (Weak.perm (H':=(bd,.cells 202 18 (doC u (.gs gp c.pc.length) (.gs (some (b,cap)) c.regs.length) (.gs gm c.mem.length) (.gs gb c.bufs.length) m r (i:Nat) x))::(b,.cells 22 (cap*1) (rgC (pre++(some (bi,capi),row)::post)))::(bi,.cells 3 (capi*1) (row.map iD))::shp gp 3 1 (c.pc.map iD) (shp gm 3 1 (c.mem.map iD) (shp gb 117 1 (c.bufs.map buf) (rgH pre (rgH post [])))))
  (y'b fun a=>by simp only[dW,doO,OC.h,x'J,z'1,y'f,y'G,z'V,z'6,y'a];omega)) ?_
 refine VC.nodup fun hn=>?_
 have hne: ¬bd=b:=fun h=>by subst h;simp[Heap.blocks]at hn
 have hne2: ¬bd=bi:=fun h=>by subst h;simp[Heap.blocks]at hn
 have hne3: ¬b=bi:=fun h=>by subst h;simp[Heap.blocks]at hn
 repeat' first|refine dr (id:=0) T 17 (by kernel_rfl) ?_|refine gn ?_|apply VCg.step T rfl rfl;focus((try simp (disch:=omega) only[go_sem,Nat.reduceBEq,Nat.reduceAdd,z'u,hrc]);(first|exact rfl|refine⟨?_,rfl⟩;try omega))|refine vs T rfl fun K hK=>?_;(try simp (disch:=omega) only[go_sem,Nat.reduceBEq,z'u]);(refine⟨?_,hK _ _ ?_⟩<;>clear hK K;focus(try omega))|refine nl ?_
 exact ZaP T rfl (z'p _) ⟨rfl,rfl⟩
theorem ZoQ (bd:Nat) (u:Un) (q:OC) (c:Cf) (hc:OkC c) (hq:q.ok c) (m r:Int) (hm:(m == 1)=false) (i:Nat) (x:Ins) (hx:x.e.length≤1000) (row:List Int) (hr:c.regs[i]?=some row) (b0:List En) (hb:c.bufs[i]?=some b0):
  Fun Tryz.prog 158 [pD bd] (dW bd u q c m r (i:Nat) x) false
  (fun d H'=> ∃q':OC,q'.ok (x'v c i (w'c m (x.loc,z'3 u row x.e) b0))∧d= .tup []∧H'=dW bd u q' (x'v c i (w'c m (x.loc,z'3 u row x.e) b0)) m r (i:Nat) x):=by
 have hil:=(z'c.1 hb).1
 have kb:=hc.buf b0 (z'h hb)
 have kr:=hc.row row (z'h hr)
 have hq2:=OC.okB hq i (w'c m (x.loc,z'3 u row x.e) b0)
 have c1:=v'I u c m r i x row hr x.e hx kr
 have c2:=Zog b0 (by omega) m x.loc (z'3 u row x.e)
 have hfz:=ZbR (bd:=bd) (u:=u) (m:=m) (r:=r) (t:=(i:Nat)) (x:=x) hq (z'S x.e)
 have hbm:(c.bufs.map buf)[i]?=some (buf b0):=by simp[hb]
 obtain⟨gp,gr,gm,gb,rs⟩:=q
 rcases gb with _|⟨b,cap⟩
 ·have h0:c.bufs.length=0:=hq.bufs
  omega
 refine Fun.perm (Φ:=fun d H'=>d= .tup []∧H'=(bd,.cells 202 18 (doC u (.gs gp c.pc.length) (.gs gr c.regs.length) (.gs gm c.mem.length) (.gs (some (b,cap)) c.bufs.length) m r (i:Nat) x))::(b,.cells 117 cap ((c.bufs.map buf).set i (buf (w'c m (x.loc,z'3 u row x.e) b0))))::shp gp 3 1 (c.pc.map iD) (shp gr 22 1 (rgC rs) (shp gm 3 1 (c.mem.map iD) (rgH rs [])))) ?_
  (fun d H' ⟨h1,h2⟩=>⟨dW bd u ⟨gp,gr,gm,some (b,cap),rs⟩ (x'v c i (w'c m (x.loc,z'3 u row x.e) b0)) m r (i:Nat) x,by
   rw[h2]
   exact y'b fun a=>by simp only[dW,doO,OC.h,z'1,x'v,y'n,y'U,z'u,y'f,y'G,z'V,z'6,y'a];omega,⟨_,hq2,h1,rfl⟩⟩)
 have hpm:(dW bd u ⟨gp,gr,gm,some (b,cap),rs⟩ c m r (i:Nat) x).Perm ((bd,.cells 202 18 (doC u (.gs gp c.pc.length) (.gs gr c.regs.length) (.gs gm c.mem.length) (.gs (some (b,cap)) c.bufs.length) m r (i:Nat) x))::(b,.cells 117 (cap*1) (c.bufs.map buf))::shp gp 3 1 (c.pc.map iD) (shp gr 22 1 (rgC rs) (shp gm 3 1 (c.mem.map iD) (rgH rs [])))):=
  y'b fun a=>by simp only[dW,doO,OC.h,z'1,y'f,y'G,z'V,z'6,y'a];omega
 have hfz2:FzL ((bd,.cells 202 18 (doC u (.gs gp c.pc.length) (.gs gr c.regs.length) (.gs gm c.mem.length) (.gs (some (b,cap)) c.bufs.length) m r (i:Nat) x))::(b,.cells 117 cap (c.bufs.map buf))::shp gp 3 1 (c.pc.map iD) (shp gr 22 1 (rgC rs) (shp gm 3 1 (c.mem.map iD) (rgH rs []))))
   [.pt (doF u c m r (i:Nat) x),z'S x.e] [pD bd,z'S x.e]:=by
  rw[z'u]at hpm
  exact FzL.sub (fun y hy=>hpm.mem_iff.1 hy) hfz
 refine Fun.of T [] Tryz.func158 rfl Tryz.ntmps158 Tryz.results158 rfl (by kernel_rfl) ?_
 refine VC.weak (Weak.perm hpm) ?_
 refine VC.nodup fun hn=>?_
 have hne: ¬bd=b:=fun h=>by subst h;simp[Heap.blocks]at hn
 simp only[z'u]
 repeat' first|refine dr (id:=3) T 32 (by kernel_rfl) ?_|refine gn ?_|apply VCg.step T rfl rfl;focus((try simp (disch:=omega) only[go_sem,Nat.reduceBEq,Nat.reduceAdd,z'u,hbm]);(first|exact rfl|refine⟨?_,rfl⟩;try omega|refine Op1.callp rfl rfl (c2) rfl ?_;exact⟨rfl,rfl⟩))|refine vs T rfl fun K hK=>?_;(try simp (disch:=omega) only[go_sem,Nat.reduceBEq,Nat.reduceAdd,z'u,hm]);(first|refine hK _ _ ?_;clear hK K|refine⟨?_,hK _ _ ?_⟩<;>clear hK K;focus(try omega)|refine Op1.lend rfl rfl (c1) (hfz2) (.inr rfl) ?_;refine hK _ _ ?_;clear hK K)|refine st rfl ?_|refine sc rfl ?_|refine nl ?_
 exact ZaP T rfl (z'p _) ⟨rfl,rfl⟩
end Go.Proofs.YtfneeacgkdhldaaGreat
