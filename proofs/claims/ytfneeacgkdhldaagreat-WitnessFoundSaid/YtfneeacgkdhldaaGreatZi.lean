/- Contracts: where a thread leads, as the reference says. No condition. -/
import Derived.Test.YtfneeacgkdhldaaGreatZf
namespace Go.Proofs.YtfneeacgkdhldaaGreat
set_option maxHeartbeats 16000000
set_option linter.unusedSimpArgs false
set_option linter.unusedVariables false
set_option maxRecDepth 20000
open Go Go.Proofs Go.Vc
attribute [local irreducible] y'5 VCg VCw VCx
theorem Zom (u:Un) (c:Cf) (hc:OkC c) (m r:Int) {i:Nat} {x:Ins} {row:List Int} {b:List En} {p:Nat} (h:Za0 u c i x row b p) (hE:enT u c m r (i:Nat)=true) (ho:x.op=5) (h0:y'j c x=z'3 u row x.e):
  Pure Tryz.prog 39 [.agg (unC u),.agg (cfC c),iD m,iD r,iD (i:Nat)] (.tup [.agg (cfC (y'R u (setP c i ((p+1:Nat):Int)) m i x row b)),bD true]):=by
 have h1:=h.pc
 obtain⟨rw,n0,h2,h5,h4,h6,h7⟩:=h.kind
 have hr:=h.thr.reg
 have hb:=h.thr.buf
 have hF:=h.fit
 have l1:=(z'c.1 h1).1
 have l2:=(z'c.1 h2).1
 have l4:=(z'c.1 h4).1
 have l5:=(z'c.1 hr).1
 have l6:=(z'c.1 hb).1
 have r1:(iRs c.pc)[i]?=some [iD (p:Nat)]:=by rw[y'Q,h1];rfl
 have r2:(x'9 u.code)[i]?=some [.sl false 7 (y'P rw)]:=by rw[x'O,h2];rfl
 have r4:(y'P rw)[p]?=some [iD x.op,iD x.reg,iD x.loc,z'S x.e,z'S x.f,bD x.ne,iD x.to]:=by rw[x'Q,h4];rfl
 have rb:(y'Y c.bufs)[i]?=some [buf b]:=by rw[x'b,hb];rfl
 have kb:=hc.buf b (z'h hb)
 have kr:=hc.row row (z'h hr)
 have kp:=h.pl
 have hw:IntKind.i64.wrap ((p:Int)+1)=((p+1:Nat):Int):=by rw[w64 (by omega)];omega
 have cc:=w'L c hc
 have cE:=x'8 u c hc m r h.thr
 rw[hE]at cE
 have c1:=x'X u c i row hr x.e h.thr.e kr
 have hx:0≤x.reg∧x.reg<(row.length:Int):=hF.r (by omega)
 have hl:0≤x.loc∧x.loc<(c.mem.length:Int):=hF.l (by omega)
 have rm:(iRs c.mem)[x.loc.toNat]?=some [iD (y'j c x)]:=by
  have hv:=z'b (show x.loc.toNat<c.mem.length by omega)
  rw[y'Q,hv]
  simp[y'j,z'e,hv]
 have c1f:=x'X u c i row hr x.f h.thr.f kr
 have e0:(y'j c x == z'3 u row x.e)=true:=by simpa using h0
 refine Fun.fz ?_
 refine Fun.of T [.cell 10 51,.tmp 11] Tryz.func39 rfl Tryz.ntmps39 Tryz.results39 rfl (by kernel_rfl) ?_
 repeat' first|refine vb (t:=25) rfl rfl rfl rfl ?_|refine vb (t:=51) rfl rfl rfl rfl ?_|refine vs T rfl fun K hK=>?_;(try simp (disch:=omega) only[go_sem,Nat.reduceBEq,Nat.reduceAdd,Nat.reduceLeDiff]);(first|refine hK _ _ ?_;clear hK K|intro bq hbq;(try simp only[HB]at hbq);refine hK _ _ ?_;clear hK K|skip)|refine st rfl ?_|refine nl ?_
 refine Op1.callx rfl rfl cc rfl (fun q hq=>?_)
 refine hK _ _ ?_
 clear hK K
 obtain⟨gp,gr,gm,gb,rs⟩:=q
 rcases gp with _|⟨bp,cp⟩
 ·have h0:c.pc.length=0:=hq.pc
  omega
 rcases gm with _|⟨bm,cm⟩
 ·have h0:c.mem.length=0:=hq.mem
  omega
 rcases gr with _|⟨br,cr⟩
 ·have h0:c.regs.length=0:=hq.gr
  omega
 obtain⟨pre,post,gi,rfl,hpl,hset⟩:=Za7 hq.rows hr
 have hgi:gOk gi row.length:=hq.row (gi,row) (by simp)
 rcases gi with _|⟨bi,ci⟩
 ·have h0:row.length=0:=hgi
  omega
 have hrc:(rgC (pre++(some (bi,ci),row)::post))[i*1]?=some (.gs (some (bi,ci)) row.length):=by
  rw[z'u]
  simp[rgC, ←hpl]
 refine vo ?_
 refine VCo.weak (Weak.perm (H':=(bq,.cells 51 4 [.gs none 0,.gs none 0,.gs none 0,.gs none 0])::(bp,.cells 3 (cp*1) (c.pc.map iD))::(br,.cells 22 (cr*1) (rgC (pre++(some (bi,ci),row)::post)))::(bi,.cells 3 (ci*1) (row.map iD))::(bm,.cells 3 (cm*1) (c.mem.map iD))::shp gb 117 1 (c.bufs.map buf) (rgH pre (rgH post []))) (y'b fun a=>by simp only[OC.h,x'J,z'1,y'f,y'G,z'V,z'6,y'a];omega)) ?_
 revert bq
 intro b8
 refine VCo.nodup fun hn=>?_
 have n1: ¬b8=bp:=fun h=>by subst h;simp[Heap.blocks]at hn
 have n2: ¬b8=br:=fun h=>by subst h;simp[Heap.blocks]at hn
 have n3: ¬b8=bi:=fun h=>by subst h;simp[Heap.blocks]at hn
 have n4: ¬b8=bm:=fun h=>by subst h;simp[Heap.blocks]at hn
 have n5: ¬bp=br:=fun h=>by subst h;simp[Heap.blocks]at hn
 have n6: ¬bp=bi:=fun h=>by subst h;simp[Heap.blocks]at hn
 have n7: ¬bp=bm:=fun h=>by subst h;simp[Heap.blocks]at hn
 have n8: ¬br=bi:=fun h=>by subst h;simp[Heap.blocks]at hn
 have n9: ¬br=bm:=fun h=>by subst h;simp[Heap.blocks]at hn
 have n10: ¬bi=bm:=fun h=>by subst h;simp[Heap.blocks]at hn
 have e20:(x.op == 20)=false:=by rw[ho];rfl
 have e21:(x.op == 21)=false:=by rw[ho];rfl
 have e2:(x.op == 2)=false:=by rw[ho];rfl
 have e3:(x.op == 3)=false:=by rw[ho];rfl
 have e4:(x.op == 4)=false:=by rw[ho];rfl
 have e5:(x.op == 5)=true:=by rw[ho];rfl
 repeat' first|refine dr (id:=4) T 13 (by kernel_rfl) ?_|refine dr (id:=6) T 9 (by kernel_rfl) ?_|refine dr (id:=22) T 13 (by kernel_rfl) ?_|refine dr (id:=24) T 10 (by kernel_rfl) ?_|refine gn ?_|refine VCg.nil T ?_;simp only[y'4,WB,Nat.reduceAdd,T56];try(refine fun(bq:Nat) hbq=>?_;(try simp only[HB]at hbq))|apply VCg.step T rfl rfl;focus((try simp (disch:=omega) only[go_sem,Nat.reduceBEq,Nat.reduceAdd,Nat.reduceLeDiff,rm,r1,r2,r4,hw,z'k,z'Q,z'7,hrc]);(first|exact rfl|refine⟨?_,rfl⟩;try omega|refine Op1.callp rfl rfl (c1f) rfl ?_;exact⟨rfl,rfl⟩))|refine VCg.alloc T rfl rfl rfl rfl rfl ?_|refine vs T rfl fun K hK=>?_;(try simp (disch:=omega) only[go_sem,Nat.reduceBEq,Nat.reduceAdd,Nat.reduceLeDiff,OC.cs,e20,e21,e2,e3,e4,e5,e0,rm,z'l,z'k]);(first|refine hK _ _ ?_;clear hK K|intro bq hbq;(try simp only[HB]at hbq);refine hK _ _ ?_;clear hK K|refine⟨?_,hK _ _ ?_⟩<;>clear hK K;focus(try omega)|refine Op1.callp rfl rfl (cE) rfl ?_;refine hK _ _ ?_;clear hK K|refine Op1.callp rfl rfl (c1) rfl ?_;refine hK _ _ ?_;clear hK K)|refine st rfl ?_|refine sc rfl ?_|refine nl ?_|refine ov ?_
 have hq2:(OC.mk (some (bp,cp)) (some (br,cr)) (some (bm,cm)) gb (pre++(some (bi,ci),row.set x.reg.toNat (y'j c x))::post)).ok (y'N (x'p (setP c i ((p+1:Nat):Int)) i (row.set x.reg.toNat (y'j c x))) x.loc.toNat (z'3 u row x.f)):=OC.okM (OC.okR (OC.okP hq i ((p+1:Nat):Int)) hset _ _) _ _
 have hcs:(OC.mk (some (bp,cp)) (some (br,cr)) (some (bm,cm)) gb (pre++(some (bi,ci),row.set x.reg.toNat (y'j c x))::post)).cs (y'N (x'p (setP c i ((p+1:Nat):Int)) i (row.set x.reg.toNat (y'j c x))) x.loc.toNat (z'3 u row x.f))=[.gs (some (bp,cp)) c.pc.length,.gs (some (br,cr)) c.regs.length,.gs (some (bm,cm)) c.mem.length,.gs gb c.bufs.length]:=by simp[OC.cs,setP,y'N,x'v,y'2,x'p]
 have hpm:((OC.mk (some (bp,cp)) (some (br,cr)) (some (bm,cm)) gb (pre++(some (bi,ci),row.set x.reg.toNat (y'j c x))::post)).h (y'N (x'p (setP c i ((p+1:Nat):Int)) i (row.set x.reg.toNat (y'j c x))) x.loc.toNat (z'3 u row x.f)) []).Perm ((bp,.cells 3 (cp*1) ((c.pc.map iD).set (i*1) (iD ((p+1:Nat):Int))))::(br,.cells 22 (cr*1) (rgC (pre++(some (bi,ci),row)::post)))::(bi,.cells 3 (ci*1) ((row.map iD).set (x.reg.toNat*1) (iD (y'j c x))))::(bm,.cells 3 (cm*1) ((c.mem.map iD).set (x.loc.toNat*1) (iD (z'3 u row x.f))))::shp gb 117 1 (c.bufs.map buf) (rgH pre (rgH post []))):=
  y'b fun a=>by simp only[OC.h,setP,y'N,x'v,y'2,x'p,x'J,v'E,z'u,y'n,z'1,y'f,y'G,z'V,z'6,y'a];omega
 rw[ZiL ho,if_pos (show y'j (setP c i ((p+1:Nat):Int)) x=z'3 u row x.e from h0)]
 refine x'g T rfl (by(try simp (disch:=omega) only[hget_ne,hget_eq]);rfl) rfl rfl rfl (z'p _) ?_
 rw[←hcs]
 exact cfz hq2 (fun y hy=>z'd _ (z'd _ (z'd _ (hpm.mem_iff.1 hy)))) true
theorem Zol (u:Un) (c:Cf) (hc:OkC c) (m r:Int) {i:Nat} {x:Ins} {row:List Int} {b:List En} {p:Nat} (h:Za0 u c i x row b p) (hE:enT u c m r (i:Nat)=true) (ho:x.op=5) (h0: ¬y'j c x=z'3 u row x.e):
  Pure Tryz.prog 39 [.agg (unC u),.agg (cfC c),iD m,iD r,iD (i:Nat)] (.tup [.agg (cfC (y'R u (setP c i ((p+1:Nat):Int)) m i x row b)),bD true]):=by
 have h1:=h.pc
 obtain⟨rw,n0,h2,h5,h4,h6,h7⟩:=h.kind
 have hr:=h.thr.reg
 have hb:=h.thr.buf
 have hF:=h.fit
 have l1:=(z'c.1 h1).1
 have l2:=(z'c.1 h2).1
 have l4:=(z'c.1 h4).1
 have l5:=(z'c.1 hr).1
 have l6:=(z'c.1 hb).1
 have r1:(iRs c.pc)[i]?=some [iD (p:Nat)]:=by rw[y'Q,h1];rfl
 have r2:(x'9 u.code)[i]?=some [.sl false 7 (y'P rw)]:=by rw[x'O,h2];rfl
 have r4:(y'P rw)[p]?=some [iD x.op,iD x.reg,iD x.loc,z'S x.e,z'S x.f,bD x.ne,iD x.to]:=by rw[x'Q,h4];rfl
 have rb:(y'Y c.bufs)[i]?=some [buf b]:=by rw[x'b,hb];rfl
 have kb:=hc.buf b (z'h hb)
 have kr:=hc.row row (z'h hr)
 have kp:=h.pl
 have hw:IntKind.i64.wrap ((p:Int)+1)=((p+1:Nat):Int):=by rw[w64 (by omega)];omega
 have cc:=w'L c hc
 have cE:=x'8 u c hc m r h.thr
 rw[hE]at cE
 have c1:=x'X u c i row hr x.e h.thr.e kr
 have hx:0≤x.reg∧x.reg<(row.length:Int):=hF.r (by omega)
 have hl:0≤x.loc∧x.loc<(c.mem.length:Int):=hF.l (by omega)
 have rm:(iRs c.mem)[x.loc.toNat]?=some [iD (y'j c x)]:=by
  have hv:=z'b (show x.loc.toNat<c.mem.length by omega)
  rw[y'Q,hv]
  simp[y'j,z'e,hv]
 have c1f:=x'X u c i row hr x.f h.thr.f kr
 have e0:(y'j c x == z'3 u row x.e)=false:=by simpa using h0
 refine Fun.fz ?_
 refine Fun.of T [.cell 10 51,.tmp 11] Tryz.func39 rfl Tryz.ntmps39 Tryz.results39 rfl (by kernel_rfl) ?_
 repeat' first|refine vb (t:=25) rfl rfl rfl rfl ?_|refine vb (t:=51) rfl rfl rfl rfl ?_|refine vs T rfl fun K hK=>?_;(try simp (disch:=omega) only[go_sem,Nat.reduceBEq,Nat.reduceAdd,Nat.reduceLeDiff]);(first|refine hK _ _ ?_;clear hK K|intro bq hbq;(try simp only[HB]at hbq);refine hK _ _ ?_;clear hK K|skip)|refine st rfl ?_|refine nl ?_
 refine Op1.callx rfl rfl cc rfl (fun q hq=>?_)
 refine hK _ _ ?_
 clear hK K
 obtain⟨gp,gr,gm,gb,rs⟩:=q
 rcases gp with _|⟨bp,cp⟩
 ·have h0:c.pc.length=0:=hq.pc
  omega
 rcases gr with _|⟨br,cr⟩
 ·have h0:c.regs.length=0:=hq.gr
  omega
 obtain⟨pre,post,gi,rfl,hpl,hset⟩:=Za7 hq.rows hr
 have hgi:gOk gi row.length:=hq.row (gi,row) (by simp)
 rcases gi with _|⟨bi,ci⟩
 ·have h0:row.length=0:=hgi
  omega
 have hrc:(rgC (pre++(some (bi,ci),row)::post))[i*1]?=some (.gs (some (bi,ci)) row.length):=by
  rw[z'u]
  simp[rgC, ←hpl]
 refine vo ?_
 refine VCo.weak (Weak.perm (H':=(bq,.cells 51 4 [.gs none 0,.gs none 0,.gs none 0,.gs none 0])::(bp,.cells 3 (cp*1) (c.pc.map iD))::(br,.cells 22 (cr*1) (rgC (pre++(some (bi,ci),row)::post)))::(bi,.cells 3 (ci*1) (row.map iD))::shp gb 117 1 (c.bufs.map buf) (shp gm 3 1 (c.mem.map iD) (rgH pre (rgH post [])))) (y'b fun a=>by simp only[OC.h,x'J,z'1,y'f,y'G,z'V,z'6,y'a];omega)) ?_
 revert bq
 intro b8
 refine VCo.nodup fun hn=>?_
 have n1: ¬b8=bp:=fun h=>by subst h;simp[Heap.blocks]at hn
 have n2: ¬b8=br:=fun h=>by subst h;simp[Heap.blocks]at hn
 have n3: ¬b8=bi:=fun h=>by subst h;simp[Heap.blocks]at hn
 have n4: ¬bp=br:=fun h=>by subst h;simp[Heap.blocks]at hn
 have n5: ¬bp=bi:=fun h=>by subst h;simp[Heap.blocks]at hn
 have n6: ¬br=bi:=fun h=>by subst h;simp[Heap.blocks]at hn
 have e20:(x.op == 20)=false:=by rw[ho];rfl
 have e21:(x.op == 21)=false:=by rw[ho];rfl
 have e2:(x.op == 2)=false:=by rw[ho];rfl
 have e3:(x.op == 3)=false:=by rw[ho];rfl
 have e4:(x.op == 4)=false:=by rw[ho];rfl
 have e5:(x.op == 5)=true:=by rw[ho];rfl
 repeat' first|refine dr (id:=4) T 13 (by kernel_rfl) ?_|refine dr (id:=6) T 9 (by kernel_rfl) ?_|refine dr (id:=22) T 13 (by kernel_rfl) ?_|refine gn ?_|refine VCg.nil T ?_;simp only[y'4,WB,Nat.reduceAdd,T56];try(refine fun(bq:Nat) hbq=>?_;(try simp only[HB]at hbq))|apply VCg.step T rfl rfl;focus((try simp (disch:=omega) only[go_sem,Nat.reduceBEq,Nat.reduceAdd,Nat.reduceLeDiff,rm,r1,r2,r4,hw,z'k,z'Q,z'7,hrc]);(first|exact rfl|refine⟨?_,rfl⟩;try omega))|refine VCg.alloc T rfl rfl rfl rfl rfl ?_|refine vs T rfl fun K hK=>?_;(try simp (disch:=omega) only[go_sem,Nat.reduceBEq,Nat.reduceAdd,Nat.reduceLeDiff,OC.cs,e20,e21,e2,e3,e4,e5,e0,rm,z'l,z'k]);(first|refine hK _ _ ?_;clear hK K|intro bq hbq;(try simp only[HB]at hbq);refine hK _ _ ?_;clear hK K|refine⟨?_,hK _ _ ?_⟩<;>clear hK K;focus(try omega)|refine Op1.callp rfl rfl (cE) rfl ?_;refine hK _ _ ?_;clear hK K|refine Op1.callp rfl rfl (c1) rfl ?_;refine hK _ _ ?_;clear hK K)|refine st rfl ?_|refine sc rfl ?_|refine nl ?_|refine ov ?_
 have hq2:(OC.mk (some (bp,cp)) (some (br,cr)) gm gb (pre++(some (bi,ci),row.set x.reg.toNat (y'j c x))::post)).ok (x'p (setP c i ((p+1:Nat):Int)) i (row.set x.reg.toNat (y'j c x))):=OC.okR (OC.okP hq i ((p+1:Nat):Int)) hset _ _
 have hcs:(OC.mk (some (bp,cp)) (some (br,cr)) gm gb (pre++(some (bi,ci),row.set x.reg.toNat (y'j c x))::post)).cs (x'p (setP c i ((p+1:Nat):Int)) i (row.set x.reg.toNat (y'j c x)))=[.gs (some (bp,cp)) c.pc.length,.gs (some (br,cr)) c.regs.length,.gs gm c.mem.length,.gs gb c.bufs.length]:=by simp[OC.cs,setP,y'N,x'v,y'2,x'p]
 have hpm:((OC.mk (some (bp,cp)) (some (br,cr)) gm gb (pre++(some (bi,ci),row.set x.reg.toNat (y'j c x))::post)).h (x'p (setP c i ((p+1:Nat):Int)) i (row.set x.reg.toNat (y'j c x))) []).Perm ((bp,.cells 3 (cp*1) ((c.pc.map iD).set (i*1) (iD ((p+1:Nat):Int))))::(br,.cells 22 (cr*1) (rgC (pre++(some (bi,ci),row)::post)))::(bi,.cells 3 (ci*1) ((row.map iD).set (x.reg.toNat*1) (iD (y'j c x))))::shp gb 117 1 (c.bufs.map buf) (shp gm 3 1 (c.mem.map iD) (rgH pre (rgH post [])))):=
  y'b fun a=>by simp only[OC.h,setP,y'N,x'v,y'2,x'p,x'J,v'E,z'u,y'n,z'1,y'f,y'G,z'V,z'6,y'a];omega
 rw[ZiL ho,if_neg (show ¬y'j (setP c i ((p+1:Nat):Int)) x=z'3 u row x.e from h0)]
 refine x'g T rfl (by(try simp (disch:=omega) only[hget_ne,hget_eq]);rfl) rfl rfl rfl (z'p _) ?_
 rw[←hcs]
 exact cfz hq2 (fun y hy=>z'd _ (z'd _ (z'd _ (hpm.mem_iff.1 hy)))) true
theorem Zpz (u:Un) (c:Cf) (hc:OkC c) (m r:Int) {i:Nat} {x:Ins} {row:List Int} {b:List En} {p:Nat} (h:Za0 u c i x row b p) (hE:enT u c m r (i:Nat)=true) (ho:x.op=6):
  Pure Tryz.prog 39 [.agg (unC u),.agg (cfC c),iD m,iD r,iD (i:Nat)] (.tup [.agg (cfC (y'R u (setP c i ((p+1:Nat):Int)) m i x row b)),bD true]):=by
 have h1:=h.pc
 obtain⟨rw,n0,h2,h5,h4,h6,h7⟩:=h.kind
 have hr:=h.thr.reg
 have hb:=h.thr.buf
 have hF:=h.fit
 have l1:=(z'c.1 h1).1
 have l2:=(z'c.1 h2).1
 have l4:=(z'c.1 h4).1
 have l5:=(z'c.1 hr).1
 have l6:=(z'c.1 hb).1
 have r1:(iRs c.pc)[i]?=some [iD (p:Nat)]:=by rw[y'Q,h1];rfl
 have r2:(x'9 u.code)[i]?=some [.sl false 7 (y'P rw)]:=by rw[x'O,h2];rfl
 have r4:(y'P rw)[p]?=some [iD x.op,iD x.reg,iD x.loc,z'S x.e,z'S x.f,bD x.ne,iD x.to]:=by rw[x'Q,h4];rfl
 have rb:(y'Y c.bufs)[i]?=some [buf b]:=by rw[x'b,hb];rfl
 have kb:=hc.buf b (z'h hb)
 have kr:=hc.row row (z'h hr)
 have kp:=h.pl
 have hw:IntKind.i64.wrap ((p:Int)+1)=((p+1:Nat):Int):=by rw[w64 (by omega)];omega
 have cc:=w'L c hc
 have cE:=x'8 u c hc m r h.thr
 rw[hE]at cE
 have c1:=x'X u c i row hr x.e h.thr.e kr
 have hx:0≤x.reg∧x.reg<(row.length:Int):=hF.r (by omega)
 have hl:0≤x.loc∧x.loc<(c.mem.length:Int):=hF.l (by omega)
 have rm:(iRs c.mem)[x.loc.toNat]?=some [iD (y'j c x)]:=by
  have hv:=z'b (show x.loc.toNat<c.mem.length by omega)
  rw[y'Q,hv]
  simp[y'j,z'e,hv]
 have hmb:=Zi8 hF
 have hvb:=hF.v
 have hmd:=hF.md
 have hwm:IntKind.i64.wrap (y'j c x+z'3 u row x.e)=y'j c x+z'3 u row x.e:=by
  have:y'j (setP c i ((p+1:Nat):Int)) x=y'j c x:=rfl
  rw[w64 (by omega)]
 refine Fun.fz ?_
 refine Fun.of T [.cell 10 51,.tmp 11] Tryz.func39 rfl Tryz.ntmps39 Tryz.results39 rfl (by kernel_rfl) ?_
 repeat' first|refine vb (t:=25) rfl rfl rfl rfl ?_|refine vb (t:=51) rfl rfl rfl rfl ?_|refine vs T rfl fun K hK=>?_;(try simp (disch:=omega) only[go_sem,Nat.reduceBEq,Nat.reduceAdd,Nat.reduceLeDiff]);(first|refine hK _ _ ?_;clear hK K|intro bq hbq;(try simp only[HB]at hbq);refine hK _ _ ?_;clear hK K|skip)|refine st rfl ?_|refine nl ?_
 refine Op1.callx rfl rfl cc rfl (fun q hq=>?_)
 refine hK _ _ ?_
 clear hK K
 obtain⟨gp,gr,gm,gb,rs⟩:=q
 rcases gp with _|⟨bp,cp⟩
 ·have h0:c.pc.length=0:=hq.pc
  omega
 rcases gm with _|⟨bm,cm⟩
 ·have h0:c.mem.length=0:=hq.mem
  omega
 rcases gr with _|⟨br,cr⟩
 ·have h0:c.regs.length=0:=hq.gr
  omega
 obtain⟨pre,post,gi,rfl,hpl,hset⟩:=Za7 hq.rows hr
 have hgi:gOk gi row.length:=hq.row (gi,row) (by simp)
 rcases gi with _|⟨bi,ci⟩
 ·have h0:row.length=0:=hgi
  omega
 have hrc:(rgC (pre++(some (bi,ci),row)::post))[i*1]?=some (.gs (some (bi,ci)) row.length):=by
  rw[z'u]
  simp[rgC, ←hpl]
 refine vo ?_
 refine VCo.weak (Weak.perm (H':=(bq,.cells 51 4 [.gs none 0,.gs none 0,.gs none 0,.gs none 0])::(bp,.cells 3 (cp*1) (c.pc.map iD))::(br,.cells 22 (cr*1) (rgC (pre++(some (bi,ci),row)::post)))::(bi,.cells 3 (ci*1) (row.map iD))::(bm,.cells 3 (cm*1) (c.mem.map iD))::shp gb 117 1 (c.bufs.map buf) (rgH pre (rgH post []))) (y'b fun a=>by simp only[OC.h,x'J,z'1,y'f,y'G,z'V,z'6,y'a];omega)) ?_
 revert bq
 intro b8
 refine VCo.nodup fun hn=>?_
 have n1: ¬b8=bp:=fun h=>by subst h;simp[Heap.blocks]at hn
 have n2: ¬b8=br:=fun h=>by subst h;simp[Heap.blocks]at hn
 have n3: ¬b8=bi:=fun h=>by subst h;simp[Heap.blocks]at hn
 have n4: ¬b8=bm:=fun h=>by subst h;simp[Heap.blocks]at hn
 have n5: ¬bp=br:=fun h=>by subst h;simp[Heap.blocks]at hn
 have n6: ¬bp=bi:=fun h=>by subst h;simp[Heap.blocks]at hn
 have n7: ¬bp=bm:=fun h=>by subst h;simp[Heap.blocks]at hn
 have n8: ¬br=bi:=fun h=>by subst h;simp[Heap.blocks]at hn
 have n9: ¬br=bm:=fun h=>by subst h;simp[Heap.blocks]at hn
 have n10: ¬bi=bm:=fun h=>by subst h;simp[Heap.blocks]at hn
 have e20:(x.op == 20)=false:=by rw[ho];rfl
 have e21:(x.op == 21)=false:=by rw[ho];rfl
 have e2:(x.op == 2)=false:=by rw[ho];rfl
 have e3:(x.op == 3)=false:=by rw[ho];rfl
 have e4:(x.op == 4)=false:=by rw[ho];rfl
 have e5:(x.op == 5)=false:=by rw[ho];rfl
 have e6:(x.op == 6)=true:=by rw[ho];rfl
 repeat' first|refine dr (id:=4) T 13 (by kernel_rfl) ?_|refine dr (id:=6) T 9 (by kernel_rfl) ?_|refine dr (id:=26) T 13 (by kernel_rfl) ?_|refine dr (id:=27) T 15 (by kernel_rfl) ?_|refine gn ?_|refine VCg.nil T ?_;simp only[y'4,WB,Nat.reduceAdd,T56];try(refine fun(bq:Nat) hbq=>?_;(try simp only[HB]at hbq))|apply VCg.step T rfl rfl;focus((try simp (disch:=omega) only[go_sem,Nat.reduceBEq,Nat.reduceAdd,Nat.reduceLeDiff,hwm,hmd,ne_eq,not_false_eq_true,rm,r1,r2,r4,hw,z'k,z'Q,z'7,hrc]);(first|exact rfl|refine⟨?_,rfl⟩;try omega))|refine VCg.alloc T rfl rfl rfl rfl rfl ?_|refine vs T rfl fun K hK=>?_;(try simp (disch:=omega) only[go_sem,Nat.reduceBEq,Nat.reduceAdd,Nat.reduceLeDiff,OC.cs,e20,e21,e2,e3,e4,e5,e6,z'l]);(first|refine hK _ _ ?_;clear hK K|intro bq hbq;(try simp only[HB]at hbq);refine hK _ _ ?_;clear hK K|refine⟨?_,hK _ _ ?_⟩<;>clear hK K;focus(try omega)|refine Op1.callp rfl rfl (cE) rfl ?_;refine hK _ _ ?_;clear hK K|refine Op1.callp rfl rfl (c1) rfl ?_;refine hK _ _ ?_;clear hK K)|refine st rfl ?_|refine sc rfl ?_|refine nl ?_|refine ov ?_
 have hq2:(OC.mk (some (bp,cp)) (some (br,cr)) (some (bm,cm)) gb (pre++(some (bi,ci),row.set x.reg.toNat (y'j c x))::post)).ok (y'N (x'p (setP c i ((p+1:Nat):Int)) i (row.set x.reg.toNat (y'j c x))) x.loc.toNat ((y'j c x+z'3 u row x.e).tmod u.md)):=OC.okM (OC.okR (OC.okP hq i ((p+1:Nat):Int)) hset _ _) _ _
 have hcs:(OC.mk (some (bp,cp)) (some (br,cr)) (some (bm,cm)) gb (pre++(some (bi,ci),row.set x.reg.toNat (y'j c x))::post)).cs (y'N (x'p (setP c i ((p+1:Nat):Int)) i (row.set x.reg.toNat (y'j c x))) x.loc.toNat ((y'j c x+z'3 u row x.e).tmod u.md))=[.gs (some (bp,cp)) c.pc.length,.gs (some (br,cr)) c.regs.length,.gs (some (bm,cm)) c.mem.length,.gs gb c.bufs.length]:=by simp[OC.cs,setP,y'N,x'v,y'2,x'p]
 have hpm:((OC.mk (some (bp,cp)) (some (br,cr)) (some (bm,cm)) gb (pre++(some (bi,ci),row.set x.reg.toNat (y'j c x))::post)).h (y'N (x'p (setP c i ((p+1:Nat):Int)) i (row.set x.reg.toNat (y'j c x))) x.loc.toNat ((y'j c x+z'3 u row x.e).tmod u.md)) []).Perm ((bp,.cells 3 (cp*1) ((c.pc.map iD).set (i*1) (iD ((p+1:Nat):Int))))::(br,.cells 22 (cr*1) (rgC (pre++(some (bi,ci),row)::post)))::(bi,.cells 3 (ci*1) ((row.map iD).set (x.reg.toNat*1) (iD (y'j c x))))::(bm,.cells 3 (cm*1) ((c.mem.map iD).set (x.loc.toNat*1) (iD ((y'j c x+z'3 u row x.e).tmod u.md))))::shp gb 117 1 (c.bufs.map buf) (rgH pre (rgH post []))):=
  y'b fun a=>by simp only[OC.h,setP,y'N,x'v,y'2,x'p,x'J,v'E,z'u,y'n,z'1,y'f,y'G,z'V,z'6,y'a];omega
 rw[Znp ho]
 refine x'g T rfl (by(try simp (disch:=omega) only[hget_ne,hget_eq]);rfl) rfl rfl rfl (z'p _) ?_
 rw[←hcs]
 exact cfz hq2 (fun y hy=>z'd _ (z'd _ (z'd _ (hpm.mem_iff.1 hy)))) true
theorem ZpA (u:Un) (c:Cf) (hc:OkC c) (m r:Int) {i:Nat} {x:Ins} {row:List Int} {b:List En} {p:Nat} (h:Za0 u c i x row b p) (hE:enT u c m r (i:Nat)=true) (ho:x.op=7):
  Pure Tryz.prog 39 [.agg (unC u),.agg (cfC c),iD m,iD r,iD (i:Nat)] (.tup [.agg (cfC (y'R u (setP c i ((p+1:Nat):Int)) m i x row b)),bD true]):=by
 have h1:=h.pc
 obtain⟨rw,n0,h2,h5,h4,h6,h7⟩:=h.kind
 have hr:=h.thr.reg
 have hb:=h.thr.buf
 have hF:=h.fit
 have l1:=(z'c.1 h1).1
 have l2:=(z'c.1 h2).1
 have l4:=(z'c.1 h4).1
 have l5:=(z'c.1 hr).1
 have l6:=(z'c.1 hb).1
 have r1:(iRs c.pc)[i]?=some [iD (p:Nat)]:=by rw[y'Q,h1];rfl
 have r2:(x'9 u.code)[i]?=some [.sl false 7 (y'P rw)]:=by rw[x'O,h2];rfl
 have r4:(y'P rw)[p]?=some [iD x.op,iD x.reg,iD x.loc,z'S x.e,z'S x.f,bD x.ne,iD x.to]:=by rw[x'Q,h4];rfl
 have rb:(y'Y c.bufs)[i]?=some [buf b]:=by rw[x'b,hb];rfl
 have kb:=hc.buf b (z'h hb)
 have kr:=hc.row row (z'h hr)
 have kp:=h.pl
 have hw:IntKind.i64.wrap ((p:Int)+1)=((p+1:Nat):Int):=by rw[w64 (by omega)];omega
 have cc:=w'L c hc
 have cE:=x'8 u c hc m r h.thr
 rw[hE]at cE
 have c1:=x'X u c i row hr x.e h.thr.e kr
 have hx:0≤x.reg∧x.reg<(row.length:Int):=hF.r (by omega)
 have hl:0≤x.loc∧x.loc<(c.mem.length:Int):=hF.l (by omega)
 have rm:(iRs c.mem)[x.loc.toNat]?=some [iD (y'j c x)]:=by
  have hv:=z'b (show x.loc.toNat<c.mem.length by omega)
  rw[y'Q,hv]
  simp[y'j,z'e,hv]
 refine Fun.fz ?_
 refine Fun.of T [.cell 10 51,.tmp 11] Tryz.func39 rfl Tryz.ntmps39 Tryz.results39 rfl (by kernel_rfl) ?_
 repeat' first|refine vb (t:=25) rfl rfl rfl rfl ?_|refine vb (t:=51) rfl rfl rfl rfl ?_|refine vs T rfl fun K hK=>?_;(try simp (disch:=omega) only[go_sem,Nat.reduceBEq,Nat.reduceAdd,Nat.reduceLeDiff]);(first|refine hK _ _ ?_;clear hK K|intro bq hbq;(try simp only[HB]at hbq);refine hK _ _ ?_;clear hK K|skip)|refine st rfl ?_|refine nl ?_
 refine Op1.callx rfl rfl cc rfl (fun q hq=>?_)
 refine hK _ _ ?_
 clear hK K
 obtain⟨gp,gr,gm,gb,rs⟩:=q
 rcases gp with _|⟨bp,cp⟩
 ·have h0:c.pc.length=0:=hq.pc
  omega
 rcases gm with _|⟨bm,cm⟩
 ·have h0:c.mem.length=0:=hq.mem
  omega
 rcases gr with _|⟨br,cr⟩
 ·have h0:c.regs.length=0:=hq.gr
  omega
 obtain⟨pre,post,gi,rfl,hpl,hset⟩:=Za7 hq.rows hr
 have hgi:gOk gi row.length:=hq.row (gi,row) (by simp)
 rcases gi with _|⟨bi,ci⟩
 ·have h0:row.length=0:=hgi
  omega
 have hrc:(rgC (pre++(some (bi,ci),row)::post))[i*1]?=some (.gs (some (bi,ci)) row.length):=by
  rw[z'u]
  simp[rgC, ←hpl]
 refine vo ?_
 refine VCo.weak (Weak.perm (H':=(bq,.cells 51 4 [.gs none 0,.gs none 0,.gs none 0,.gs none 0])::(bp,.cells 3 (cp*1) (c.pc.map iD))::(br,.cells 22 (cr*1) (rgC (pre++(some (bi,ci),row)::post)))::(bi,.cells 3 (ci*1) (row.map iD))::(bm,.cells 3 (cm*1) (c.mem.map iD))::shp gb 117 1 (c.bufs.map buf) (rgH pre (rgH post []))) (y'b fun a=>by simp only[OC.h,x'J,z'1,y'f,y'G,z'V,z'6,y'a];omega)) ?_
 revert bq
 intro b8
 refine VCo.nodup fun hn=>?_
 have n1: ¬b8=bp:=fun h=>by subst h;simp[Heap.blocks]at hn
 have n2: ¬b8=br:=fun h=>by subst h;simp[Heap.blocks]at hn
 have n3: ¬b8=bi:=fun h=>by subst h;simp[Heap.blocks]at hn
 have n4: ¬b8=bm:=fun h=>by subst h;simp[Heap.blocks]at hn
 have n5: ¬bp=br:=fun h=>by subst h;simp[Heap.blocks]at hn
 have n6: ¬bp=bi:=fun h=>by subst h;simp[Heap.blocks]at hn
 have n7: ¬bp=bm:=fun h=>by subst h;simp[Heap.blocks]at hn
 have n8: ¬br=bi:=fun h=>by subst h;simp[Heap.blocks]at hn
 have n9: ¬br=bm:=fun h=>by subst h;simp[Heap.blocks]at hn
 have n10: ¬bi=bm:=fun h=>by subst h;simp[Heap.blocks]at hn
 have e20:(x.op == 20)=false:=by rw[ho];rfl
 have e21:(x.op == 21)=false:=by rw[ho];rfl
 have e2:(x.op == 2)=false:=by rw[ho];rfl
 have e3:(x.op == 3)=false:=by rw[ho];rfl
 have e4:(x.op == 4)=false:=by rw[ho];rfl
 have e5:(x.op == 5)=false:=by rw[ho];rfl
 have e6:(x.op == 6)=false:=by rw[ho];rfl
 have e7:(x.op == 7)=true:=by rw[ho];rfl
 repeat' first|refine dr (id:=4) T 13 (by kernel_rfl) ?_|refine dr (id:=6) T 9 (by kernel_rfl) ?_|refine dr (id:=29) T 13 (by kernel_rfl) ?_|refine gn ?_|refine VCg.nil T ?_;simp only[y'4,WB,Nat.reduceAdd,T56];try(refine fun(bq:Nat) hbq=>?_;(try simp only[HB]at hbq))|apply VCg.step T rfl rfl;focus((try simp (disch:=omega) only[go_sem,Nat.reduceBEq,Nat.reduceAdd,Nat.reduceLeDiff,rm,r1,r2,r4,hw,z'k,z'Q,z'7,hrc]);(first|exact rfl|refine⟨?_,rfl⟩;try omega))|refine VCg.alloc T rfl rfl rfl rfl rfl ?_|refine vs T rfl fun K hK=>?_;(try simp (disch:=omega) only[go_sem,Nat.reduceBEq,Nat.reduceAdd,Nat.reduceLeDiff,OC.cs,e20,e21,e2,e3,e4,e5,e6,e7,z'l]);(first|refine hK _ _ ?_;clear hK K|intro bq hbq;(try simp only[HB]at hbq);refine hK _ _ ?_;clear hK K|refine⟨?_,hK _ _ ?_⟩<;>clear hK K;focus(try omega)|refine Op1.callp rfl rfl (cE) rfl ?_;refine hK _ _ ?_;clear hK K|refine Op1.callp rfl rfl (c1) rfl ?_;refine hK _ _ ?_;clear hK K)|refine st rfl ?_|refine sc rfl ?_|refine nl ?_|refine ov ?_
 have hq2:(OC.mk (some (bp,cp)) (some (br,cr)) (some (bm,cm)) gb (pre++(some (bi,ci),row.set x.reg.toNat (y'j c x))::post)).ok (y'N (x'p (setP c i ((p+1:Nat):Int)) i (row.set x.reg.toNat (y'j c x))) x.loc.toNat (z'3 u row x.e)):=OC.okM (OC.okR (OC.okP hq i ((p+1:Nat):Int)) hset _ _) _ _
 have hcs:(OC.mk (some (bp,cp)) (some (br,cr)) (some (bm,cm)) gb (pre++(some (bi,ci),row.set x.reg.toNat (y'j c x))::post)).cs (y'N (x'p (setP c i ((p+1:Nat):Int)) i (row.set x.reg.toNat (y'j c x))) x.loc.toNat (z'3 u row x.e))=[.gs (some (bp,cp)) c.pc.length,.gs (some (br,cr)) c.regs.length,.gs (some (bm,cm)) c.mem.length,.gs gb c.bufs.length]:=by simp[OC.cs,setP,y'N,x'v,y'2,x'p]
 have hpm:((OC.mk (some (bp,cp)) (some (br,cr)) (some (bm,cm)) gb (pre++(some (bi,ci),row.set x.reg.toNat (y'j c x))::post)).h (y'N (x'p (setP c i ((p+1:Nat):Int)) i (row.set x.reg.toNat (y'j c x))) x.loc.toNat (z'3 u row x.e)) []).Perm ((bp,.cells 3 (cp*1) ((c.pc.map iD).set (i*1) (iD ((p+1:Nat):Int))))::(br,.cells 22 (cr*1) (rgC (pre++(some (bi,ci),row)::post)))::(bi,.cells 3 (ci*1) ((row.map iD).set (x.reg.toNat*1) (iD (y'j c x))))::(bm,.cells 3 (cm*1) ((c.mem.map iD).set (x.loc.toNat*1) (iD (z'3 u row x.e))))::shp gb 117 1 (c.bufs.map buf) (rgH pre (rgH post []))):=
  y'b fun a=>by simp only[OC.h,setP,y'N,x'v,y'2,x'p,x'J,v'E,z'u,y'n,z'1,y'f,y'G,z'V,z'6,y'a];omega
 rw[Znq ho]
 refine x'g T rfl (by(try simp (disch:=omega) only[hget_ne,hget_eq]);rfl) rfl rfl rfl (z'p _) ?_
 rw[←hcs]
 exact cfz hq2 (fun y hy=>z'd _ (z'd _ (z'd _ (hpm.mem_iff.1 hy)))) true
end Go.Proofs.YtfneeacgkdhldaaGreat
