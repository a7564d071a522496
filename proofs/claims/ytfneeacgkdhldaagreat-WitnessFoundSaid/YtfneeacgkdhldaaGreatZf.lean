/- Contracts: where a thread leads, as the reference says. No condition. -/
import Derived.Test.YtfneeacgkdhldaaGreatZe
import Derived.Test.YtfneeacgkdhldaaGreatZm
namespace Go.Proofs.YtfneeacgkdhldaaGreat
set_option maxHeartbeats 16000000
set_option linter.unusedSimpArgs false
set_option linter.unusedVariables false
set_option maxRecDepth 20000
open Go Go.Proofs Go.Vc
attribute [local irreducible] y'5 VCg VCw VCx
theorem OC.okR {gp gr gm gb g:G} {pre post:OR} {row:List Int} {c:Cf} {i:Nat} (hq:(OC.mk gp gr gm gb (pre++(g,row)::post)).ok c) (hset:c.regs.set i=fun r'=>(pre++(g,r')::post).map (·.2)) (k:Nat) (n:Int):
  (OC.mk gp gr gm gb (pre++(g,row.set k n)::post)).ok (x'p c i (row.set k n)):=by
 refine⟨hq.pc,by simpa[x'p]using hq.gr,hq.mem,hq.bufs,(congrFun hset _).symm,?_⟩
 intro p hp
 have hgi:gOk g row.length:=hq.row (g,row) (by simp)
 rcases y'g.1 hp with hp|hp
 ·exact hq.row p (y'B _ hp)
 ·rcases z'P.1 hp with rfl|hp
  ·simpa using hgi
  ·exact hq.row p (y'7 _ (z'd _ hp))
theorem v'E {pre post:OR} {g:G} {row:List Int} {k:Nat} {n:Int}:rgC (pre++(g,row.set k n)::post)=rgC (pre++(g,row)::post):=by simp[rgC]
section
variable {u : Un} {c : Cf} {m : Int} {i : Nat} {x : Ins} {row : List Int} {b : List En}
theorem ZlQ (ho:x.op=20):y'R u c m i x row b=setP c i x.to:=by simp[y'R,ho]
theorem Zhn (ho:x.op=21):y'R u c m i x row b=if z'3 u row x.e=0 then setP c i x.to else c:=by simp[y'R,ho]
theorem Znn (ho:x.op=2):y'R u c m i x row b=y'2 c i row x (z'3 u row x.e):=by simp[y'R,ho]
theorem Zno (ho:x.op=3):y'R u c m i x row b=y'2 c i row x (x'u c (i:Nat) x.loc):=by simp[y'R,ho]
theorem ZiK (ho:x.op=4):y'R u c m i x row b=if m=1 then y'N c x.loc.toNat (z'3 u row x.e)else x'v c i (w'c m (x.loc,z'3 u row x.e) b):=by simp[y'R,ho]
theorem ZiL (ho:x.op=5):y'R u c m i x row b=if y'j c x=z'3 u row x.e then y'N (y'2 c i row x (y'j c x)) x.loc.toNat (z'3 u row x.f)else y'2 c i row x (y'j c x):=by simp[y'R,ho]
theorem Znp (ho:x.op=6):y'R u c m i x row b=y'N (y'2 c i row x (y'j c x)) x.loc.toNat ((y'j c x+z'3 u row x.e).tmod u.md):=by simp[y'R,ho]
theorem Znq (ho:x.op=7):y'R u c m i x row b=y'N (y'2 c i row x (y'j c x)) x.loc.toNat (z'3 u row x.e):=by simp[y'R,ho]
end
theorem Zoi (u:Un) (c:Cf) (hc:OkC c) (m r:Int) {i:Nat} {x:Ins} {row:List Int} {b:List En} {p:Nat} (h:Za0 u c i x row b p) (hE:enT u c m r (i:Nat)=true) (ho:x.op=20):
  Pure Tryz.prog 39 [.agg (unC u),.agg (cfC c),iD m,iD r,iD (i:Nat)] (.tup [.agg (cfC (y'R u (setP c i ((p+1:Nat):Int)) m i x row b)),bD true]):=by
 have h1:=h.pc
 obtain⟨rw,n0,h2,h5,h4,h6,h7⟩:=h.kind
 have hr:=h.thr.reg
 have hb:=h.thr.buf
 have hF:=h.fit
 have l1:=(z'c.1 h1).1
 have l2:=(z'c.1 h2).1
 have l4:=(z'c.1 h4).1
 have l5:=(z'c.1 hr).1
 have l6:=(z'c.1 hb).1
 have r1:(iRs c.pc)[i]?=some [iD (p:Nat)]:=by rw[y'Q,h1];rfl
 have r2:(x'9 u.code)[i]?=some [.sl false 7 (y'P rw)]:=by rw[x'O,h2];rfl
 have r4:(y'P rw)[p]?=some [iD x.op,iD x.reg,iD x.loc,z'S x.e,z'S x.f,bD x.ne,iD x.to]:=by rw[x'Q,h4];rfl
 have rb:(y'Y c.bufs)[i]?=some [buf b]:=by rw[x'b,hb];rfl
 have kb:=hc.buf b (z'h hb)
 have kr:=hc.row row (z'h hr)
 have kp:=h.pl
 have hw:IntKind.i64.wrap ((p:Int)+1)=((p+1:Nat):Int):=by rw[w64 (by omega)];omega
 have cc:=w'L c hc
 have cE:=x'8 u c hc m r h.thr
 rw[hE]at cE
 have c1:=x'X u c i row hr x.e h.thr.e kr
 refine Fun.fz ?_
 refine Fun.of T [.cell 10 51,.tmp 11] Tryz.func39 rfl Tryz.ntmps39 Tryz.results39 rfl (by kernel_rfl) ?_
 repeat' first|refine vb (t:=25) rfl rfl rfl rfl ?_|refine vb (t:=51) rfl rfl rfl rfl ?_|refine vs T rfl fun K hK=>?_;(try simp (disch:=omega) only[go_sem,Nat.reduceBEq,Nat.reduceAdd,Nat.reduceLeDiff]);(first|refine hK _ _ ?_;clear hK K|intro bq hbq;(try simp only[HB]at hbq);refine hK _ _ ?_;clear hK K|skip)|refine st rfl ?_|refine nl ?_
 refine Op1.callx rfl rfl cc rfl (fun q hq=>?_)
 refine hK _ _ ?_
 clear hK K
 obtain⟨gp,gr,gm,gb,rs⟩:=q
 rcases gp with _|⟨bp,cp⟩
 ·have h0:c.pc.length=0:=hq.pc
  omega
 refine vo ?_
 refine VCo.weak (Weak.perm (H':=(bq,.cells 51 4 [.gs none 0,.gs none 0,.gs none 0,.gs none 0])::(bp,.cells 3 (cp*1) (c.pc.map iD))::shp gr 22 1 (rgC rs) (shp gb 117 1 (c.bufs.map buf) (shp gm 3 1 (c.mem.map iD) (rgH rs [])))) (y'b fun a=>by simp only[OC.h,x'J,z'1,y'f,y'G,z'V,z'6,y'a];omega)) ?_
 revert bq
 intro b8
 refine VCo.nodup fun hn=>?_
 have n1: ¬b8=bp:=fun h=>by subst h;simp[Heap.blocks]at hn
 have e20:(x.op == 20)=true:=by rw[ho];rfl
 repeat' first|refine dr (id:=4) T 13 (by kernel_rfl) ?_|refine dr (id:=6) T 9 (by kernel_rfl) ?_|refine gn ?_|refine VCg.nil T ?_;simp only[y'4,WB,Nat.reduceAdd,T56];try(refine fun(bq:Nat) hbq=>?_;(try simp only[HB]at hbq))|apply VCg.step T rfl rfl;focus((try simp (disch:=omega) only[go_sem,Nat.reduceBEq,Nat.reduceAdd,Nat.reduceLeDiff,r1,r2,r4,hw,z'k,z'Q,z'7]);(first|exact rfl|refine⟨?_,rfl⟩;try omega))|refine VCg.alloc T rfl rfl rfl rfl rfl ?_|refine vs T rfl fun K hK=>?_;(try simp (disch:=omega) only[go_sem,Nat.reduceBEq,Nat.reduceAdd,Nat.reduceLeDiff,OC.cs,y'U,e20,z'l]);(first|refine hK _ _ ?_;clear hK K|intro bq hbq;(try simp only[HB]at hbq);refine hK _ _ ?_;clear hK K|refine⟨?_,hK _ _ ?_⟩<;>clear hK K;focus(try omega)|refine Op1.callp rfl rfl (cE) rfl ?_;refine hK _ _ ?_;clear hK K|refine Op1.callp rfl rfl (c1) rfl ?_;refine hK _ _ ?_;clear hK K)|refine st rfl ?_|refine sc rfl ?_|refine nl ?_|refine ov ?_
 have hq2:(OC.mk (some (bp,cp)) gr gm gb (rs)).ok (setP (setP c i ((p+1:Nat):Int)) i x.to):=OC.okP (OC.okP hq i ((p+1:Nat):Int)) i _
 have hcs:(OC.mk (some (bp,cp)) gr gm gb (rs)).cs (setP (setP c i ((p+1:Nat):Int)) i x.to)=[.gs (some (bp,cp)) c.pc.length,.gs gr c.regs.length,.gs gm c.mem.length,.gs gb c.bufs.length]:=by simp[OC.cs,setP,y'N,x'v,y'2,x'p]
 have hpm:((OC.mk (some (bp,cp)) gr gm gb (rs)).h (setP (setP c i ((p+1:Nat):Int)) i x.to) []).Perm ((bp,.cells 3 (cp*1) (((c.pc.map iD).set (i*1) (iD ((p+1:Nat):Int))).set (i*1) (iD x.to)))::shp gr 22 1 (rgC rs) (shp gb 117 1 (c.bufs.map buf) (shp gm 3 1 (c.mem.map iD) (rgH rs [])))):=
  y'b fun a=>by simp only[OC.h,setP,y'N,x'v,y'2,x'p,x'J,v'E,z'u,y'n,z'1,y'f,y'G,z'V,z'6,y'a];omega
 rw[ZlQ ho]
 refine x'g T rfl (by(try simp (disch:=omega) only[hget_ne,hget_eq]);rfl) rfl rfl rfl (z'p _) ?_
 rw[←hcs]
 exact cfz hq2 (fun y hy=>z'd _ (z'd _ (z'd _ (hpm.mem_iff.1 hy)))) true
theorem ZmH (u:Un) (c:Cf) (hc:OkC c) (m r:Int) {i:Nat} {x:Ins} {row:List Int} {b:List En} {p:Nat} (h:Za0 u c i x row b p) (hE:enT u c m r (i:Nat)=true) (ho:x.op=21) (h0:z'3 u row x.e=0):
  Pure Tryz.prog 39 [.agg (unC u),.agg (cfC c),iD m,iD r,iD (i:Nat)] (.tup [.agg (cfC (y'R u (setP c i ((p+1:Nat):Int)) m i x row b)),bD true]):=by
 have h1:=h.pc
 obtain⟨rw,n0,h2,h5,h4,h6,h7⟩:=h.kind
 have hr:=h.thr.reg
 have hb:=h.thr.buf
 have hF:=h.fit
 have l1:=(z'c.1 h1).1
 have l2:=(z'c.1 h2).1
 have l4:=(z'c.1 h4).1
 have l5:=(z'c.1 hr).1
 have l6:=(z'c.1 hb).1
 have r1:(iRs c.pc)[i]?=some [iD (p:Nat)]:=by rw[y'Q,h1];rfl
 have r2:(x'9 u.code)[i]?=some [.sl false 7 (y'P rw)]:=by rw[x'O,h2];rfl
 have r4:(y'P rw)[p]?=some [iD x.op,iD x.reg,iD x.loc,z'S x.e,z'S x.f,bD x.ne,iD x.to]:=by rw[x'Q,h4];rfl
 have rb:(y'Y c.bufs)[i]?=some [buf b]:=by rw[x'b,hb];rfl
 have kb:=hc.buf b (z'h hb)
 have kr:=hc.row row (z'h hr)
 have kp:=h.pl
 have hw:IntKind.i64.wrap ((p:Int)+1)=((p+1:Nat):Int):=by rw[w64 (by omega)];omega
 have cc:=w'L c hc
 have cE:=x'8 u c hc m r h.thr
 rw[hE]at cE
 have c1:=x'X u c i row hr x.e h.thr.e kr
 have e0:(z'3 u row x.e == 0)=true:=by simpa using h0
 refine Fun.fz ?_
 refine Fun.of T [.cell 10 51,.tmp 11] Tryz.func39 rfl Tryz.ntmps39 Tryz.results39 rfl (by kernel_rfl) ?_
 repeat' first|refine vb (t:=25) rfl rfl rfl rfl ?_|refine vb (t:=51) rfl rfl rfl rfl ?_|refine vs T rfl fun K hK=>?_;(try simp (disch:=omega) only[go_sem,Nat.reduceBEq,Nat.reduceAdd,Nat.reduceLeDiff]);(first|refine hK _ _ ?_;clear hK K|intro bq hbq;(try simp only[HB]at hbq);refine hK _ _ ?_;clear hK K|skip)|refine st rfl ?_|refine nl ?_
 refine Op1.callx rfl rfl cc rfl (fun q hq=>?_)
 refine hK _ _ ?_
 clear hK K
 obtain⟨gp,gr,gm,gb,rs⟩:=q
 rcases gp with _|⟨bp,cp⟩
 ·have h0:c.pc.length=0:=hq.pc
  omega
 refine vo ?_
 refine VCo.weak (Weak.perm (H':=(bq,.cells 51 4 [.gs none 0,.gs none 0,.gs none 0,.gs none 0])::(bp,.cells 3 (cp*1) (c.pc.map iD))::shp gr 22 1 (rgC rs) (shp gb 117 1 (c.bufs.map buf) (shp gm 3 1 (c.mem.map iD) (rgH rs [])))) (y'b fun a=>by simp only[OC.h,x'J,z'1,y'f,y'G,z'V,z'6,y'a];omega)) ?_
 revert bq
 intro b8
 refine VCo.nodup fun hn=>?_
 have n1: ¬b8=bp:=fun h=>by subst h;simp[Heap.blocks]at hn
 have e20:(x.op == 20)=false:=by rw[ho];rfl
 have e21:(x.op == 21)=true:=by rw[ho];rfl
 repeat' first|refine dr (id:=4) T 13 (by kernel_rfl) ?_|refine dr (id:=6) T 9 (by kernel_rfl) ?_|refine gn ?_|refine VCg.nil T ?_;simp only[y'4,WB,Nat.reduceAdd,T56];try(refine fun(bq:Nat) hbq=>?_;(try simp only[HB]at hbq))|apply VCg.step T rfl rfl;focus((try simp (disch:=omega) only[go_sem,Nat.reduceBEq,Nat.reduceAdd,Nat.reduceLeDiff,r1,r2,r4,hw,z'k,z'Q,z'7]);(first|exact rfl|refine⟨?_,rfl⟩;try omega))|refine VCg.alloc T rfl rfl rfl rfl rfl ?_|refine vs T rfl fun K hK=>?_;(try simp (disch:=omega) only[go_sem,Nat.reduceBEq,Nat.reduceAdd,Nat.reduceLeDiff,OC.cs,y'U,e20,e21,e0,z'l]);(first|refine hK _ _ ?_;clear hK K|intro bq hbq;(try simp only[HB]at hbq);refine hK _ _ ?_;clear hK K|refine⟨?_,hK _ _ ?_⟩<;>clear hK K;focus(try omega)|refine Op1.callp rfl rfl (cE) rfl ?_;refine hK _ _ ?_;clear hK K|refine Op1.callp rfl rfl (c1) rfl ?_;refine hK _ _ ?_;clear hK K)|refine st rfl ?_|refine sc rfl ?_|refine nl ?_|refine ov ?_
 have hq2:(OC.mk (some (bp,cp)) gr gm gb (rs)).ok (setP (setP c i ((p+1:Nat):Int)) i x.to):=OC.okP (OC.okP hq i ((p+1:Nat):Int)) i _
 have hcs:(OC.mk (some (bp,cp)) gr gm gb (rs)).cs (setP (setP c i ((p+1:Nat):Int)) i x.to)=[.gs (some (bp,cp)) c.pc.length,.gs gr c.regs.length,.gs gm c.mem.length,.gs gb c.bufs.length]:=by simp[OC.cs,setP,y'N,x'v,y'2,x'p]
 have hpm:((OC.mk (some (bp,cp)) gr gm gb (rs)).h (setP (setP c i ((p+1:Nat):Int)) i x.to) []).Perm ((bp,.cells 3 (cp*1) (((c.pc.map iD).set (i*1) (iD ((p+1:Nat):Int))).set (i*1) (iD x.to)))::shp gr 22 1 (rgC rs) (shp gb 117 1 (c.bufs.map buf) (shp gm 3 1 (c.mem.map iD) (rgH rs [])))):=
  y'b fun a=>by simp only[OC.h,setP,y'N,x'v,y'2,x'p,x'J,v'E,z'u,y'n,z'1,y'f,y'G,z'V,z'6,y'a];omega
 rw[Zhn ho,if_pos h0]
 refine x'g T rfl (by(try simp (disch:=omega) only[hget_ne,hget_eq]);rfl) rfl rfl rfl (z'p _) ?_
 rw[←hcs]
 exact cfz hq2 (fun y hy=>z'd _ (z'd _ (z'd _ (hpm.mem_iff.1 hy)))) true
theorem ZmG (u:Un) (c:Cf) (hc:OkC c) (m r:Int) {i:Nat} {x:Ins} {row:List Int} {b:List En} {p:Nat} (h:Za0 u c i x row b p) (hE:enT u c m r (i:Nat)=true) (ho:x.op=21) (h0: ¬z'3 u row x.e=0):
  Pure Tryz.prog 39 [.agg (unC u),.agg (cfC c),iD m,iD r,iD (i:Nat)] (.tup [.agg (cfC (y'R u (setP c i ((p+1:Nat):Int)) m i x row b)),bD true]):=by
 have h1:=h.pc
 obtain⟨rw,n0,h2,h5,h4,h6,h7⟩:=h.kind
 have hr:=h.thr.reg
 have hb:=h.thr.buf
 have hF:=h.fit
 have l1:=(z'c.1 h1).1
 have l2:=(z'c.1 h2).1
 have l4:=(z'c.1 h4).1
 have l5:=(z'c.1 hr).1
 have l6:=(z'c.1 hb).1
 have r1:(iRs c.pc)[i]?=some [iD (p:Nat)]:=by rw[y'Q,h1];rfl
 have r2:(x'9 u.code)[i]?=some [.sl false 7 (y'P rw)]:=by rw[x'O,h2];rfl
 have r4:(y'P rw)[p]?=some [iD x.op,iD x.reg,iD x.loc,z'S x.e,z'S x.f,bD x.ne,iD x.to]:=by rw[x'Q,h4];rfl
 have rb:(y'Y c.bufs)[i]?=some [buf b]:=by rw[x'b,hb];rfl
 have kb:=hc.buf b (z'h hb)
 have kr:=hc.row row (z'h hr)
 have kp:=h.pl
 have hw:IntKind.i64.wrap ((p:Int)+1)=((p+1:Nat):Int):=by rw[w64 (by omega)];omega
 have cc:=w'L c hc
 have cE:=x'8 u c hc m r h.thr
 rw[hE]at cE
 have c1:=x'X u c i row hr x.e h.thr.e kr
 have e0:(z'3 u row x.e == 0)=false:=by simpa using h0
 refine Fun.fz ?_
 refine Fun.of T [.cell 10 51,.tmp 11] Tryz.func39 rfl Tryz.ntmps39 Tryz.results39 rfl (by kernel_rfl) ?_
 repeat' first|refine vb (t:=25) rfl rfl rfl rfl ?_|refine vb (t:=51) rfl rfl rfl rfl ?_|refine vs T rfl fun K hK=>?_;(try simp (disch:=omega) only[go_sem,Nat.reduceBEq,Nat.reduceAdd,Nat.reduceLeDiff]);(first|refine hK _ _ ?_;clear hK K|intro bq hbq;(try simp only[HB]at hbq);refine hK _ _ ?_;clear hK K|skip)|refine st rfl ?_|refine nl ?_
 refine Op1.callx rfl rfl cc rfl (fun q hq=>?_)
 refine hK _ _ ?_
 clear hK K
 obtain⟨gp,gr,gm,gb,rs⟩:=q
 rcases gp with _|⟨bp,cp⟩
 ·have h0:c.pc.length=0:=hq.pc
  omega
 refine vo ?_
 refine VCo.weak (Weak.perm (H':=(bq,.cells 51 4 [.gs none 0,.gs none 0,.gs none 0,.gs none 0])::(bp,.cells 3 (cp*1) (c.pc.map iD))::shp gr 22 1 (rgC rs) (shp gb 117 1 (c.bufs.map buf) (shp gm 3 1 (c.mem.map iD) (rgH rs [])))) (y'b fun a=>by simp only[OC.h,x'J,z'1,y'f,y'G,z'V,z'6,y'a];omega)) ?_
 revert bq
 intro b8
 refine VCo.nodup fun hn=>?_
 have n1: ¬b8=bp:=fun h=>by subst h;simp[Heap.blocks]at hn
 have e20:(x.op == 20)=false:=by rw[ho];rfl
 have e21:(x.op == 21)=true:=by rw[ho];rfl
 repeat' first|refine dr (id:=4) T 13 (by kernel_rfl) ?_|refine dr (id:=6) T 9 (by kernel_rfl) ?_|refine gn ?_|refine VCg.nil T ?_;simp only[y'4,WB,Nat.reduceAdd,T56];try(refine fun(bq:Nat) hbq=>?_;(try simp only[HB]at hbq))|apply VCg.step T rfl rfl;focus((try simp (disch:=omega) only[go_sem,Nat.reduceBEq,Nat.reduceAdd,Nat.reduceLeDiff,r1,r2,r4,hw,z'k,z'Q,z'7]);(first|exact rfl|refine⟨?_,rfl⟩;try omega))|refine VCg.alloc T rfl rfl rfl rfl rfl ?_|refine vs T rfl fun K hK=>?_;(try simp (disch:=omega) only[go_sem,Nat.reduceBEq,Nat.reduceAdd,Nat.reduceLeDiff,OC.cs,e20,e21,e0,z'l]);(first|refine hK _ _ ?_;clear hK K|intro bq hbq;(try simp only[HB]at hbq);refine hK _ _ ?_;clear hK K|refine⟨?_,hK _ _ ?_⟩<;>clear hK K;focus(try omega)|refine Op1.callp rfl rfl (cE) rfl ?_;refine hK _ _ ?_;clear hK K|refine Op1.callp rfl rfl (c1) rfl ?_;refine hK _ _ ?_;clear hK K)|refine st rfl ?_|refine sc rfl ?_|refine nl ?_|refine ov ?_
 have hq2:(OC.mk (some (bp,cp)) gr gm gb (rs)).ok (setP c i ((p+1:Nat):Int)):=OC.okP hq i ((p+1:Nat):Int)
 have hcs:(OC.mk (some (bp,cp)) gr gm gb (rs)).cs (setP c i ((p+1:Nat):Int))=[.gs (some (bp,cp)) c.pc.length,.gs gr c.regs.length,.gs gm c.mem.length,.gs gb c.bufs.length]:=by simp[OC.cs,setP,y'N,x'v,y'2,x'p]
 have hpm:((OC.mk (some (bp,cp)) gr gm gb (rs)).h (setP c i ((p+1:Nat):Int)) []).Perm ((bp,.cells 3 (cp*1) ((c.pc.map iD).set (i*1) (iD ((p+1:Nat):Int))))::shp gr 22 1 (rgC rs) (shp gb 117 1 (c.bufs.map buf) (shp gm 3 1 (c.mem.map iD) (rgH rs [])))):=
  y'b fun a=>by simp only[OC.h,setP,y'N,x'v,y'2,x'p,x'J,v'E,z'u,y'n,z'1,y'f,y'G,z'V,z'6,y'a];omega
 rw[Zhn ho,if_neg h0]
 refine x'g T rfl (by(try simp (disch:=omega) only[hget_ne,hget_eq]);rfl) rfl rfl rfl (z'p _) ?_
 rw[←hcs]
 exact cfz hq2 (fun y hy=>z'd _ (z'd _ (z'd _ (hpm.mem_iff.1 hy)))) true
theorem Zpx (u:Un) (c:Cf) (hc:OkC c) (m r:Int) {i:Nat} {x:Ins} {row:List Int} {b:List En} {p:Nat} (h:Za0 u c i x row b p) (hE:enT u c m r (i:Nat)=true) (ho:x.op=2):
  Pure Tryz.prog 39 [.agg (unC u),.agg (cfC c),iD m,iD r,iD (i:Nat)] (.tup [.agg (cfC (y'R u (setP c i ((p+1:Nat):Int)) m i x row b)),bD true]):=by
 have h1:=h.pc
 obtain⟨rw,n0,h2,h5,h4,h6,h7⟩:=h.kind
 have hr:=h.thr.reg
 have hb:=h.thr.buf
 have hF:=h.fit
 have l1:=(z'c.1 h1).1
 have l2:=(z'c.1 h2).1
 have l4:=(z'c.1 h4).1
 have l5:=(z'c.1 hr).1
 have l6:=(z'c.1 hb).1
 have r1:(iRs c.pc)[i]?=some [iD (p:Nat)]:=by rw[y'Q,h1];rfl
 have r2:(x'9 u.code)[i]?=some [.sl false 7 (y'P rw)]:=by rw[x'O,h2];rfl
 have r4:(y'P rw)[p]?=some [iD x.op,iD x.reg,iD x.loc,z'S x.e,z'S x.f,bD x.ne,iD x.to]:=by rw[x'Q,h4];rfl
 have rb:(y'Y c.bufs)[i]?=some [buf b]:=by rw[x'b,hb];rfl
 have kb:=hc.buf b (z'h hb)
 have kr:=hc.row row (z'h hr)
 have kp:=h.pl
 have hw:IntKind.i64.wrap ((p:Int)+1)=((p+1:Nat):Int):=by rw[w64 (by omega)];omega
 have cc:=w'L c hc
 have cE:=x'8 u c hc m r h.thr
 rw[hE]at cE
 have c1:=x'X u c i row hr x.e h.thr.e kr
 have hx:0≤x.reg∧x.reg<(row.length:Int):=hF.r (by omega)
 refine Fun.fz ?_
 refine Fun.of T [.cell 10 51,.tmp 11] Tryz.func39 rfl Tryz.ntmps39 Tryz.results39 rfl (by kernel_rfl) ?_
 repeat' first|refine vb (t:=25) rfl rfl rfl rfl ?_|refine vb (t:=51) rfl rfl rfl rfl ?_|refine vs T rfl fun K hK=>?_;(try simp (disch:=omega) only[go_sem,Nat.reduceBEq,Nat.reduceAdd,Nat.reduceLeDiff]);(first|refine hK _ _ ?_;clear hK K|intro bq hbq;(try simp only[HB]at hbq);refine hK _ _ ?_;clear hK K|skip)|refine st rfl ?_|refine nl ?_
 refine Op1.callx rfl rfl cc rfl (fun q hq=>?_)
 refine hK _ _ ?_
 clear hK K
 obtain⟨gp,gr,gm,gb,rs⟩:=q
 rcases gp with _|⟨bp,cp⟩
 ·have h0:c.pc.length=0:=hq.pc
  omega
 rcases gr with _|⟨br,cr⟩
 ·have h0:c.regs.length=0:=hq.gr
  omega
 obtain⟨pre,post,gi,rfl,hpl,hset⟩:=Za7 hq.rows hr
 have hgi:gOk gi row.length:=hq.row (gi,row) (by simp)
 rcases gi with _|⟨bi,ci⟩
 ·have h0:row.length=0:=hgi
  omega
 have hrc:(rgC (pre++(some (bi,ci),row)::post))[i*1]?=some (.gs (some (bi,ci)) row.length):=by
  rw[z'u]
  simp[rgC, ←hpl]
 refine vo ?_
 refine VCo.weak (Weak.perm (H':=(bq,.cells 51 4 [.gs none 0,.gs none 0,.gs none 0,.gs none 0])::(bp,.cells 3 (cp*1) (c.pc.map iD))::(br,.cells 22 (cr*1) (rgC (pre++(some (bi,ci),row)::post)))::(bi,.cells 3 (ci*1) (row.map iD))::shp gb 117 1 (c.bufs.map buf) (shp gm 3 1 (c.mem.map iD) (rgH pre (rgH post [])))) (y'b fun a=>by simp only[OC.h,x'J,z'1,y'f,y'G,z'V,z'6,y'a];omega)) ?_
 revert bq
 intro b8
 refine VCo.nodup fun hn=>?_
 have n1: ¬b8=bp:=fun h=>by subst h;simp[Heap.blocks]at hn
 have n2: ¬b8=br:=fun h=>by subst h;simp[Heap.blocks]at hn
 have n3: ¬b8=bi:=fun h=>by subst h;simp[Heap.blocks]at hn
 have n4: ¬bp=br:=fun h=>by subst h;simp[Heap.blocks]at hn
 have n5: ¬bp=bi:=fun h=>by subst h;simp[Heap.blocks]at hn
 have n6: ¬br=bi:=fun h=>by subst h;simp[Heap.blocks]at hn
 have e20:(x.op == 20)=false:=by rw[ho];rfl
 have e21:(x.op == 21)=false:=by rw[ho];rfl
 have e2:(x.op == 2)=true:=by rw[ho];rfl
 repeat' first|refine dr (id:=4) T 13 (by kernel_rfl) ?_|refine dr (id:=6) T 9 (by kernel_rfl) ?_|refine dr (id:=14) T 8 (by kernel_rfl) ?_|refine gn ?_|refine VCg.nil T ?_;simp only[y'4,WB,Nat.reduceAdd,T56];try(refine fun(bq:Nat) hbq=>?_;(try simp only[HB]at hbq))|apply VCg.step T rfl rfl;focus((try simp (disch:=omega) only[go_sem,Nat.reduceBEq,Nat.reduceAdd,Nat.reduceLeDiff,r1,r2,r4,hw,z'k,z'Q,z'7,hrc]);(first|exact rfl|refine⟨?_,rfl⟩;try omega))|refine VCg.alloc T rfl rfl rfl rfl rfl ?_|refine vs T rfl fun K hK=>?_;(try simp (disch:=omega) only[go_sem,Nat.reduceBEq,Nat.reduceAdd,Nat.reduceLeDiff,OC.cs,e20,e21,e2,z'l]);(first|refine hK _ _ ?_;clear hK K|intro bq hbq;(try simp only[HB]at hbq);refine hK _ _ ?_;clear hK K|refine⟨?_,hK _ _ ?_⟩<;>clear hK K;focus(try omega)|refine Op1.callp rfl rfl (cE) rfl ?_;refine hK _ _ ?_;clear hK K|refine Op1.callp rfl rfl (c1) rfl ?_;refine hK _ _ ?_;clear hK K)|refine st rfl ?_|refine sc rfl ?_|refine nl ?_|refine ov ?_
 have hq2:(OC.mk (some (bp,cp)) (some (br,cr)) gm gb (pre++(some (bi,ci),row.set x.reg.toNat (z'3 u row x.e))::post)).ok (x'p (setP c i ((p+1:Nat):Int)) i (row.set x.reg.toNat (z'3 u row x.e))):=OC.okR (OC.okP hq i ((p+1:Nat):Int)) hset _ _
 have hcs:(OC.mk (some (bp,cp)) (some (br,cr)) gm gb (pre++(some (bi,ci),row.set x.reg.toNat (z'3 u row x.e))::post)).cs (x'p (setP c i ((p+1:Nat):Int)) i (row.set x.reg.toNat (z'3 u row x.e)))=[.gs (some (bp,cp)) c.pc.length,.gs (some (br,cr)) c.regs.length,.gs gm c.mem.length,.gs gb c.bufs.length]:=by simp[OC.cs,setP,y'N,x'v,y'2,x'p]
 have hpm:((OC.mk (some (bp,cp)) (some (br,cr)) gm gb (pre++(some (bi,ci),row.set x.reg.toNat (z'3 u row x.e))::post)).h (x'p (setP c i ((p+1:Nat):Int)) i (row.set x.reg.toNat (z'3 u row x.e))) []).Perm ((bp,.cells 3 (cp*1) ((c.pc.map iD).set (i*1) (iD ((p+1:Nat):Int))))::(br,.cells 22 (cr*1) (rgC (pre++(some (bi,ci),row)::post)))::(bi,.cells 3 (ci*1) ((row.map iD).set (x.reg.toNat*1) (iD (z'3 u row x.e))))::shp gb 117 1 (c.bufs.map buf) (shp gm 3 1 (c.mem.map iD) (rgH pre (rgH post [])))):=
  y'b fun a=>by simp only[OC.h,setP,y'N,x'v,y'2,x'p,x'J,v'E,z'u,y'n,z'1,y'f,y'G,z'V,z'6,y'a];omega
 rw[Znn ho]
 refine x'g T rfl (by(try simp (disch:=omega) only[hget_ne,hget_eq]);rfl) rfl rfl rfl (z'p _) ?_
 rw[←hcs]
 exact cfz hq2 (fun y hy=>z'd _ (z'd _ (z'd _ (hpm.mem_iff.1 hy)))) true
theorem Zpy (u:Un) (c:Cf) (hc:OkC c) (m r:Int) {i:Nat} {x:Ins} {row:List Int} {b:List En} {p:Nat} (h:Za0 u c i x row b p) (hE:enT u c m r (i:Nat)=true) (ho:x.op=3):
  Pure Tryz.prog 39 [.agg (unC u),.agg (cfC c),iD m,iD r,iD (i:Nat)] (.tup [.agg (cfC (y'R u (setP c i ((p+1:Nat):Int)) m i x row b)),bD true]):=by
 have h1:=h.pc
 obtain⟨rw,n0,h2,h5,h4,h6,h7⟩:=h.kind
 have hr:=h.thr.reg
 have hb:=h.thr.buf
 have hF:=h.fit
 have l1:=(z'c.1 h1).1
 have l2:=(z'c.1 h2).1
 have l4:=(z'c.1 h4).1
 have l5:=(z'c.1 hr).1
 have l6:=(z'c.1 hb).1
 have r1:(iRs c.pc)[i]?=some [iD (p:Nat)]:=by rw[y'Q,h1];rfl
 have r2:(x'9 u.code)[i]?=some [.sl false 7 (y'P rw)]:=by rw[x'O,h2];rfl
 have r4:(y'P rw)[p]?=some [iD x.op,iD x.reg,iD x.loc,z'S x.e,z'S x.f,bD x.ne,iD x.to]:=by rw[x'Q,h4];rfl
 have rb:(y'Y c.bufs)[i]?=some [buf b]:=by rw[x'b,hb];rfl
 have kb:=hc.buf b (z'h hb)
 have kr:=hc.row row (z'h hr)
 have kp:=h.pl
 have hw:IntKind.i64.wrap ((p:Int)+1)=((p+1:Nat):Int):=by rw[w64 (by omega)];omega
 have cc:=w'L c hc
 have cE:=x'8 u c hc m r h.thr
 rw[hE]at cE
 have c1:=x'X u c i row hr x.e h.thr.e kr
 have hx:0≤x.reg∧x.reg<(row.length:Int):=hF.r (by omega)
 have c2:=ZgY c hc.buf (i:Nat) x.loc
 refine Fun.fz ?_
 refine Fun.of T [.cell 10 51,.tmp 11] Tryz.func39 rfl Tryz.ntmps39 Tryz.results39 rfl (by kernel_rfl) ?_
 repeat' first|refine vb (t:=25) rfl rfl rfl rfl ?_|refine vb (t:=51) rfl rfl rfl rfl ?_|refine vs T rfl fun K hK=>?_;(try simp (disch:=omega) only[go_sem,Nat.reduceBEq,Nat.reduceAdd,Nat.reduceLeDiff]);(first|refine hK _ _ ?_;clear hK K|intro bq hbq;(try simp only[HB]at hbq);refine hK _ _ ?_;clear hK K|skip)|refine st rfl ?_|refine nl ?_
 refine Op1.callx rfl rfl cc rfl (fun q hq=>?_)
 refine hK _ _ ?_
 clear hK K
 obtain⟨gp,gr,gm,gb,rs⟩:=q
 rcases gp with _|⟨bp,cp⟩
 ·have h0:c.pc.length=0:=hq.pc
  omega
 rcases gr with _|⟨br,cr⟩
 ·have h0:c.regs.length=0:=hq.gr
  omega
 obtain⟨pre,post,gi,rfl,hpl,hset⟩:=Za7 hq.rows hr
 have hgi:gOk gi row.length:=hq.row (gi,row) (by simp)
 rcases gi with _|⟨bi,ci⟩
 ·have h0:row.length=0:=hgi
  omega
 have hrc:(rgC (pre++(some (bi,ci),row)::post))[i*1]?=some (.gs (some (bi,ci)) row.length):=by
  rw[z'u]
  simp[rgC, ←hpl]
 refine vo ?_
 refine VCo.weak (Weak.perm (H':=(bq,.cells 51 4 [.gs none 0,.gs none 0,.gs none 0,.gs none 0])::(bp,.cells 3 (cp*1) (c.pc.map iD))::(br,.cells 22 (cr*1) (rgC (pre++(some (bi,ci),row)::post)))::(bi,.cells 3 (ci*1) (row.map iD))::shp gb 117 1 (c.bufs.map buf) (shp gm 3 1 (c.mem.map iD) (rgH pre (rgH post [])))) (y'b fun a=>by simp only[OC.h,x'J,z'1,y'f,y'G,z'V,z'6,y'a];omega)) ?_
 revert bq
 intro b8
 refine VCo.nodup fun hn=>?_
 have n1: ¬b8=bp:=fun h=>by subst h;simp[Heap.blocks]at hn
 have n2: ¬b8=br:=fun h=>by subst h;simp[Heap.blocks]at hn
 have n3: ¬b8=bi:=fun h=>by subst h;simp[Heap.blocks]at hn
 have n4: ¬bp=br:=fun h=>by subst h;simp[Heap.blocks]at hn
 have n5: ¬bp=bi:=fun h=>by subst h;simp[Heap.blocks]at hn
 have n6: ¬br=bi:=fun h=>by subst h;simp[Heap.blocks]at hn
 have e20:(x.op == 20)=false:=by rw[ho];rfl
 have e21:(x.op == 21)=false:=by rw[ho];rfl
 have e2:(x.op == 2)=false:=by rw[ho];rfl
 have e3:(x.op == 3)=true:=by rw[ho];rfl
 repeat' first|refine dr (id:=4) T 13 (by kernel_rfl) ?_|refine dr (id:=6) T 9 (by kernel_rfl) ?_|refine dr (id:=16) T 12 (by kernel_rfl) ?_|refine gn ?_|refine VCg.nil T ?_;simp only[y'4,WB,Nat.reduceAdd,T56];try(refine fun(bq:Nat) hbq=>?_;(try simp only[HB]at hbq))|apply VCg.step T rfl rfl;focus((try simp (disch:=omega) only[go_sem,Nat.reduceBEq,Nat.reduceAdd,Nat.reduceLeDiff,r1,r2,r4,hw,z'k,z'Q,z'7,hrc]);(first|exact rfl|refine⟨?_,rfl⟩;try omega|refine Op1.callp rfl rfl (c2) rfl ?_;exact⟨rfl,rfl⟩))|refine VCg.alloc T rfl rfl rfl rfl rfl ?_|refine vs T rfl fun K hK=>?_;(try simp (disch:=omega) only[go_sem,Nat.reduceBEq,Nat.reduceAdd,Nat.reduceLeDiff,OC.cs,e20,e21,e2,e3,z'l]);(first|refine hK _ _ ?_;clear hK K|intro bq hbq;(try simp only[HB]at hbq);refine hK _ _ ?_;clear hK K|refine⟨?_,hK _ _ ?_⟩<;>clear hK K;focus(try omega)|refine Op1.callp rfl rfl (cE) rfl ?_;refine hK _ _ ?_;clear hK K|refine Op1.callp rfl rfl (c1) rfl ?_;refine hK _ _ ?_;clear hK K)|refine st rfl ?_|refine sc rfl ?_|refine nl ?_|refine ov ?_
 have hq2:(OC.mk (some (bp,cp)) (some (br,cr)) gm gb (pre++(some (bi,ci),row.set x.reg.toNat (x'u c (i:Nat) x.loc))::post)).ok (x'p (setP c i ((p+1:Nat):Int)) i (row.set x.reg.toNat (x'u c (i:Nat) x.loc))):=OC.okR (OC.okP hq i ((p+1:Nat):Int)) hset _ _
 have hcs:(OC.mk (some (bp,cp)) (some (br,cr)) gm gb (pre++(some (bi,ci),row.set x.reg.toNat (x'u c (i:Nat) x.loc))::post)).cs (x'p (setP c i ((p+1:Nat):Int)) i (row.set x.reg.toNat (x'u c (i:Nat) x.loc)))=[.gs (some (bp,cp)) c.pc.length,.gs (some (br,cr)) c.regs.length,.gs gm c.mem.length,.gs gb c.bufs.length]:=by simp[OC.cs,setP,y'N,x'v,y'2,x'p]
 have hpm:((OC.mk (some (bp,cp)) (some (br,cr)) gm gb (pre++(some (bi,ci),row.set x.reg.toNat (x'u c (i:Nat) x.loc))::post)).h (x'p (setP c i ((p+1:Nat):Int)) i (row.set x.reg.toNat (x'u c (i:Nat) x.loc))) []).Perm ((bp,.cells 3 (cp*1) ((c.pc.map iD).set (i*1) (iD ((p+1:Nat):Int))))::(br,.cells 22 (cr*1) (rgC (pre++(some (bi,ci),row)::post)))::(bi,.cells 3 (ci*1) ((row.map iD).set (x.reg.toNat*1) (iD (x'u c (i:Nat) x.loc))))::shp gb 117 1 (c.bufs.map buf) (shp gm 3 1 (c.mem.map iD) (rgH pre (rgH post [])))):=
  y'b fun a=>by simp only[OC.h,setP,y'N,x'v,y'2,x'p,x'J,v'E,z'u,y'n,z'1,y'f,y'G,z'V,z'6,y'a];omega
 rw[Zno ho]
 refine x'g T rfl (by(try simp (disch:=omega) only[hget_ne,hget_eq]);rfl) rfl rfl rfl (z'p _) ?_
 rw[←hcs]
 exact cfz hq2 (fun y hy=>z'd _ (z'd _ (z'd _ (hpm.mem_iff.1 hy)))) true
theorem Zok (u:Un) (c:Cf) (hc:OkC c) (m r:Int) {i:Nat} {x:Ins} {row:List Int} {b:List En} {p:Nat} (h:Za0 u c i x row b p) (hE:enT u c m r (i:Nat)=true) (ho:x.op=4) (hm:m=1):
  Pure Tryz.prog 39 [.agg (unC u),.agg (cfC c),iD m,iD r,iD (i:Nat)] (.tup [.agg (cfC (y'R u (setP c i ((p+1:Nat):Int)) m i x row b)),bD true]):=by
 have h1:=h.pc
 obtain⟨rw,n0,h2,h5,h4,h6,h7⟩:=h.kind
 have hr:=h.thr.reg
 have hb:=h.thr.buf
 have hF:=h.fit
 have l1:=(z'c.1 h1).1
 have l2:=(z'c.1 h2).1
 have l4:=(z'c.1 h4).1
 have l5:=(z'c.1 hr).1
 have l6:=(z'c.1 hb).1
 have r1:(iRs c.pc)[i]?=some [iD (p:Nat)]:=by rw[y'Q,h1];rfl
 have r2:(x'9 u.code)[i]?=some [.sl false 7 (y'P rw)]:=by rw[x'O,h2];rfl
 have r4:(y'P rw)[p]?=some [iD x.op,iD x.reg,iD x.loc,z'S x.e,z'S x.f,bD x.ne,iD x.to]:=by rw[x'Q,h4];rfl
 have rb:(y'Y c.bufs)[i]?=some [buf b]:=by rw[x'b,hb];rfl
 have kb:=hc.buf b (z'h hb)
 have kr:=hc.row row (z'h hr)
 have kp:=h.pl
 have hw:IntKind.i64.wrap ((p:Int)+1)=((p+1:Nat):Int):=by rw[w64 (by omega)];omega
 have cc:=w'L c hc
 have cE:=x'8 u c hc m r h.thr
 rw[hE]at cE
 have c1:=x'X u c i row hr x.e h.thr.e kr
 have hl:0≤x.loc∧x.loc<(c.mem.length:Int):=hF.l (by omega)
 have rm:(iRs c.mem)[x.loc.toNat]?=some [iD (y'j c x)]:=by
  have hv:=z'b (show x.loc.toNat<c.mem.length by omega)
  rw[y'Q,hv]
  simp[y'j,z'e,hv]
 have em:(m == 1)=true:=by simpa using hm
 refine Fun.fz ?_
 refine Fun.of T [.cell 10 51,.tmp 11] Tryz.func39 rfl Tryz.ntmps39 Tryz.results39 rfl (by kernel_rfl) ?_
 repeat' first|refine vb (t:=25) rfl rfl rfl rfl ?_|refine vb (t:=51) rfl rfl rfl rfl ?_|refine vs T rfl fun K hK=>?_;(try simp (disch:=omega) only[go_sem,Nat.reduceBEq,Nat.reduceAdd,Nat.reduceLeDiff]);(first|refine hK _ _ ?_;clear hK K|intro bq hbq;(try simp only[HB]at hbq);refine hK _ _ ?_;clear hK K|skip)|refine st rfl ?_|refine nl ?_
 refine Op1.callx rfl rfl cc rfl (fun q hq=>?_)
 refine hK _ _ ?_
 clear hK K
 obtain⟨gp,gr,gm,gb,rs⟩:=q
 rcases gp with _|⟨bp,cp⟩
 ·have h0:c.pc.length=0:=hq.pc
  omega
 rcases gm with _|⟨bm,cm⟩
 ·have h0:c.mem.length=0:=hq.mem
  omega
 refine vo ?_
 refine VCo.weak (Weak.perm (H':=(bq,.cells 51 4 [.gs none 0,.gs none 0,.gs none 0,.gs none 0])::(bp,.cells 3 (cp*1) (c.pc.map iD))::(bm,.cells 3 (cm*1) (c.mem.map iD))::shp gr 22 1 (rgC rs) (shp gb 117 1 (c.bufs.map buf) (rgH rs []))) (y'b fun a=>by simp only[OC.h,x'J,z'1,y'f,y'G,z'V,z'6,y'a];omega)) ?_
 revert bq
 intro b8
 refine VCo.nodup fun hn=>?_
 have n1: ¬b8=bp:=fun h=>by subst h;simp[Heap.blocks]at hn
 have n2: ¬b8=bm:=fun h=>by subst h;simp[Heap.blocks]at hn
 have n3: ¬bp=bm:=fun h=>by subst h;simp[Heap.blocks]at hn
 have e20:(x.op == 20)=false:=by rw[ho];rfl
 have e21:(x.op == 21)=false:=by rw[ho];rfl
 have e2:(x.op == 2)=false:=by rw[ho];rfl
 have e3:(x.op == 3)=false:=by rw[ho];rfl
 have e4:(x.op == 4)=true:=by rw[ho];rfl
 repeat' first|refine dr (id:=4) T 13 (by kernel_rfl) ?_|refine dr (id:=6) T 9 (by kernel_rfl) ?_|refine gn ?_|refine VCg.nil T ?_;simp only[y'4,WB,Nat.reduceAdd,T56];try(refine fun(bq:Nat) hbq=>?_;(try simp only[HB]at hbq))|apply VCg.step T rfl rfl;focus((try simp (disch:=omega) only[go_sem,Nat.reduceBEq,Nat.reduceAdd,Nat.reduceLeDiff,r1,r2,r4,hw,z'k,z'Q,z'7]);(first|exact rfl|refine⟨?_,rfl⟩;try omega))|refine VCg.alloc T rfl rfl rfl rfl rfl ?_|refine vs T rfl fun K hK=>?_;(try simp (disch:=omega) only[go_sem,Nat.reduceBEq,Nat.reduceAdd,Nat.reduceLeDiff,OC.cs,e20,e21,e2,e3,e4,em,z'l]);(first|refine hK _ _ ?_;clear hK K|intro bq hbq;(try simp only[HB]at hbq);refine hK _ _ ?_;clear hK K|refine⟨?_,hK _ _ ?_⟩<;>clear hK K;focus(try omega)|refine Op1.callp rfl rfl (cE) rfl ?_;refine hK _ _ ?_;clear hK K|refine Op1.callp rfl rfl (c1) rfl ?_;refine hK _ _ ?_;clear hK K)|refine st rfl ?_|refine sc rfl ?_|refine nl ?_|refine ov ?_
 have hq2:(OC.mk (some (bp,cp)) gr (some (bm,cm)) gb (rs)).ok (y'N (setP c i ((p+1:Nat):Int)) x.loc.toNat (z'3 u row x.e)):=OC.okM (OC.okP hq i ((p+1:Nat):Int)) _ _
 have hcs:(OC.mk (some (bp,cp)) gr (some (bm,cm)) gb (rs)).cs (y'N (setP c i ((p+1:Nat):Int)) x.loc.toNat (z'3 u row x.e))=[.gs (some (bp,cp)) c.pc.length,.gs gr c.regs.length,.gs (some (bm,cm)) c.mem.length,.gs gb c.bufs.length]:=by simp[OC.cs,setP,y'N,x'v,y'2,x'p]
 have hpm:((OC.mk (some (bp,cp)) gr (some (bm,cm)) gb (rs)).h (y'N (setP c i ((p+1:Nat):Int)) x.loc.toNat (z'3 u row x.e)) []).Perm ((bp,.cells 3 (cp*1) ((c.pc.map iD).set (i*1) (iD ((p+1:Nat):Int))))::(bm,.cells 3 (cm*1) ((c.mem.map iD).set (x.loc.toNat*1) (iD (z'3 u row x.e))))::shp gr 22 1 (rgC rs) (shp gb 117 1 (c.bufs.map buf) (rgH rs []))):=
  y'b fun a=>by simp only[OC.h,setP,y'N,x'v,y'2,x'p,x'J,v'E,z'u,y'n,z'1,y'f,y'G,z'V,z'6,y'a];omega
 rw[ZiK ho,if_pos hm]
 refine x'g T rfl (by(try simp (disch:=omega) only[hget_ne,hget_eq]);rfl) rfl rfl rfl (z'p _) ?_
 rw[←hcs]
 exact cfz hq2 (fun y hy=>z'd _ (z'd _ (z'd _ (hpm.mem_iff.1 hy)))) true
theorem Zoj (u:Un) (c:Cf) (hc:OkC c) (m r:Int) {i:Nat} {x:Ins} {row:List Int} {b:List En} {p:Nat} (h:Za0 u c i x row b p) (hE:enT u c m r (i:Nat)=true) (ho:x.op=4) (hm: ¬m=1):
  Pure Tryz.prog 39 [.agg (unC u),.agg (cfC c),iD m,iD r,iD (i:Nat)] (.tup [.agg (cfC (y'R u (setP c i ((p+1:Nat):Int)) m i x row b)),bD true]):=by
 have h1:=h.pc
 obtain⟨rw,n0,h2,h5,h4,h6,h7⟩:=h.kind
 have hr:=h.thr.reg
 have hb:=h.thr.buf
 have hF:=h.fit
 have l1:=(z'c.1 h1).1
 have l2:=(z'c.1 h2).1
 have l4:=(z'c.1 h4).1
 have l5:=(z'c.1 hr).1
 have l6:=(z'c.1 hb).1
 have r1:(iRs c.pc)[i]?=some [iD (p:Nat)]:=by rw[y'Q,h1];rfl
 have r2:(x'9 u.code)[i]?=some [.sl false 7 (y'P rw)]:=by rw[x'O,h2];rfl
 have r4:(y'P rw)[p]?=some [iD x.op,iD x.reg,iD x.loc,z'S x.e,z'S x.f,bD x.ne,iD x.to]:=by rw[x'Q,h4];rfl
 have rb:(y'Y c.bufs)[i]?=some [buf b]:=by rw[x'b,hb];rfl
 have kb:=hc.buf b (z'h hb)
 have kr:=hc.row row (z'h hr)
 have kp:=h.pl
 have hw:IntKind.i64.wrap ((p:Int)+1)=((p+1:Nat):Int):=by rw[w64 (by omega)];omega
 have cc:=w'L c hc
 have cE:=x'8 u c hc m r h.thr
 rw[hE]at cE
 have c1:=x'X u c i row hr x.e h.thr.e kr
 have em:(m == 1)=false:=by simpa using hm
 have c3:=ZmT b (by omega) m x.loc (z'3 u row x.e)
 refine Fun.fz ?_
 refine Fun.of T [.cell 10 51,.tmp 11] Tryz.func39 rfl Tryz.ntmps39 Tryz.results39 rfl (by kernel_rfl) ?_
 repeat' first|refine vb (t:=25) rfl rfl rfl rfl ?_|refine vb (t:=51) rfl rfl rfl rfl ?_|refine vs T rfl fun K hK=>?_;(try simp (disch:=omega) only[go_sem,Nat.reduceBEq,Nat.reduceAdd,Nat.reduceLeDiff]);(first|refine hK _ _ ?_;clear hK K|intro bq hbq;(try simp only[HB]at hbq);refine hK _ _ ?_;clear hK K|skip)|refine st rfl ?_|refine nl ?_
 refine Op1.callx rfl rfl cc rfl (fun q hq=>?_)
 refine hK _ _ ?_
 clear hK K
 obtain⟨gp,gr,gm,gb,rs⟩:=q
 rcases gp with _|⟨bp,cp⟩
 ·have h0:c.pc.length=0:=hq.pc
  omega
 rcases gb with _|⟨bb,cb⟩
 ·have h0:c.bufs.length=0:=hq.bufs
  omega
 refine vo ?_
 refine VCo.weak (Weak.perm (H':=(bq,.cells 51 4 [.gs none 0,.gs none 0,.gs none 0,.gs none 0])::(bp,.cells 3 (cp*1) (c.pc.map iD))::(bb,.cells 117 (cb*1) (c.bufs.map buf))::shp gr 22 1 (rgC rs) (shp gm 3 1 (c.mem.map iD) (rgH rs []))) (y'b fun a=>by simp only[OC.h,x'J,z'1,y'f,y'G,z'V,z'6,y'a];omega)) ?_
 revert bq
 intro b8
 refine VCo.nodup fun hn=>?_
 have n1: ¬b8=bp:=fun h=>by subst h;simp[Heap.blocks]at hn
 have n2: ¬b8=bb:=fun h=>by subst h;simp[Heap.blocks]at hn
 have n3: ¬bp=bb:=fun h=>by subst h;simp[Heap.blocks]at hn
 have e20:(x.op == 20)=false:=by rw[ho];rfl
 have e21:(x.op == 21)=false:=by rw[ho];rfl
 have e2:(x.op == 2)=false:=by rw[ho];rfl
 have e3:(x.op == 3)=false:=by rw[ho];rfl
 have e4:(x.op == 4)=true:=by rw[ho];rfl
 repeat' first|refine dr (id:=4) T 13 (by kernel_rfl) ?_|refine dr (id:=6) T 9 (by kernel_rfl) ?_|refine dr (id:=20) T 14 (by kernel_rfl) ?_|refine gn ?_|refine VCg.nil T ?_;simp only[y'4,WB,Nat.reduceAdd,T56];try(refine fun(bq:Nat) hbq=>?_;(try simp only[HB]at hbq))|apply VCg.step T rfl rfl;focus((try simp (disch:=omega) only[go_sem,Nat.reduceBEq,Nat.reduceAdd,Nat.reduceLeDiff,rb,z'Z,r1,r2,r4,hw,z'k,z'Q,z'7]);(first|exact rfl|refine⟨?_,rfl⟩;try omega|refine Op1.callp rfl rfl (c3) rfl ?_;exact⟨rfl,rfl⟩))|refine VCg.alloc T rfl rfl rfl rfl rfl ?_|refine vs T rfl fun K hK=>?_;(try simp (disch:=omega) only[go_sem,Nat.reduceBEq,Nat.reduceAdd,Nat.reduceLeDiff,OC.cs,e20,e21,e2,e3,e4,em,z'l]);(first|refine hK _ _ ?_;clear hK K|intro bq hbq;(try simp only[HB]at hbq);refine hK _ _ ?_;clear hK K|refine⟨?_,hK _ _ ?_⟩<;>clear hK K;focus(try omega)|refine Op1.callp rfl rfl (cE) rfl ?_;refine hK _ _ ?_;clear hK K|refine Op1.callp rfl rfl (c1) rfl ?_;refine hK _ _ ?_;clear hK K)|refine st rfl ?_|refine sc rfl ?_|refine nl ?_|refine ov ?_
 have hq2:(OC.mk (some (bp,cp)) gr gm (some (bb,cb)) (rs)).ok (x'v (setP c i ((p+1:Nat):Int)) i (w'c m (x.loc,z'3 u row x.e) b)):=OC.okB (OC.okP hq i ((p+1:Nat):Int)) _ _
 have hcs:(OC.mk (some (bp,cp)) gr gm (some (bb,cb)) (rs)).cs (x'v (setP c i ((p+1:Nat):Int)) i (w'c m (x.loc,z'3 u row x.e) b))=[.gs (some (bp,cp)) c.pc.length,.gs gr c.regs.length,.gs gm c.mem.length,.gs (some (bb,cb)) c.bufs.length]:=by simp[OC.cs,setP,y'N,x'v,y'2,x'p]
 have hpm:((OC.mk (some (bp,cp)) gr gm (some (bb,cb)) (rs)).h (x'v (setP c i ((p+1:Nat):Int)) i (w'c m (x.loc,z'3 u row x.e) b)) []).Perm ((bp,.cells 3 (cp*1) ((c.pc.map iD).set (i*1) (iD ((p+1:Nat):Int))))::(bb,.cells 117 (cb*1) ((c.bufs.map buf).set (i*1) (buf (w'c m (x.loc,z'3 u row x.e) b))))::shp gr 22 1 (rgC rs) (shp gm 3 1 (c.mem.map iD) (rgH rs []))):=
  y'b fun a=>by simp only[OC.h,setP,y'N,x'v,y'2,x'p,x'J,v'E,z'u,y'n,z'1,y'f,y'G,z'V,z'6,y'a];omega
 rw[ZiK ho,if_neg hm]
 refine x'g T rfl (by(try simp (disch:=omega) only[hget_ne,hget_eq]);rfl) rfl rfl rfl (z'p _) ?_
 rw[←hcs]
 exact cfz hq2 (fun y hy=>z'd _ (z'd _ (z'd _ (hpm.mem_iff.1 hy)))) true
theorem Zon (u:Un) (c:Cf) (hc:OkC c) (m r:Int) {i:Nat} {x:Ins} {row:List Int} {b:List En} {p:Nat} (h:Za0 u c i x row b p) (hE:enT u c m r (i:Nat)=true) (ho20:x.op≠20) (ho21:x.op≠21) (ho2:x.op≠2) (ho3:x.op≠3) (ho4:x.op≠4) (ho5:x.op≠5) (ho6:x.op≠6) (ho7:x.op≠7):
  Pure Tryz.prog 39 [.agg (unC u),.agg (cfC c),iD m,iD r,iD (i:Nat)] (.tup [.agg (cfC (y'R u (setP c i ((p+1:Nat):Int)) m i x row b)),bD true]):=by
 have h1:=h.pc
 obtain⟨rw,n0,h2,h5,h4,h6,h7⟩:=h.kind
 have hr:=h.thr.reg
 have hb:=h.thr.buf
 have hF:=h.fit
 have l1:=(z'c.1 h1).1
 have l2:=(z'c.1 h2).1
 have l4:=(z'c.1 h4).1
 have l5:=(z'c.1 hr).1
 have l6:=(z'c.1 hb).1
 have r1:(iRs c.pc)[i]?=some [iD (p:Nat)]:=by rw[y'Q,h1];rfl
 have r2:(x'9 u.code)[i]?=some [.sl false 7 (y'P rw)]:=by rw[x'O,h2];rfl
 have r4:(y'P rw)[p]?=some [iD x.op,iD x.reg,iD x.loc,z'S x.e,z'S x.f,bD x.ne,iD x.to]:=by rw[x'Q,h4];rfl
 have rb:(y'Y c.bufs)[i]?=some [buf b]:=by rw[x'b,hb];rfl
 have kb:=hc.buf b (z'h hb)
 have kr:=hc.row row (z'h hr)
 have kp:=h.pl
 have hw:IntKind.i64.wrap ((p:Int)+1)=((p+1:Nat):Int):=by rw[w64 (by omega)];omega
 have cc:=w'L c hc
 have cE:=x'8 u c hc m r h.thr
 rw[hE]at cE
 have c1:=x'X u c i row hr x.e h.thr.e kr
 refine Fun.fz ?_
 refine Fun.of T [.cell 10 51,.tmp 11] Tryz.func39 rfl Tryz.ntmps39 Tryz.results39 rfl (by kernel_rfl) ?_
 repeat' first|refine vb (t:=25) rfl rfl rfl rfl ?_|refine vb (t:=51) rfl rfl rfl rfl ?_|refine vs T rfl fun K hK=>?_;(try simp (disch:=omega) only[go_sem,Nat.reduceBEq,Nat.reduceAdd,Nat.reduceLeDiff]);(first|refine hK _ _ ?_;clear hK K|intro bq hbq;(try simp only[HB]at hbq);refine hK _ _ ?_;clear hK K|skip)|refine st rfl ?_|refine nl ?_
 refine Op1.callx rfl rfl cc rfl (fun q hq=>?_)
 refine hK _ _ ?_
 clear hK K
 obtain⟨gp,gr,gm,gb,rs⟩:=q
 rcases gp with _|⟨bp,cp⟩
 ·have h0:c.pc.length=0:=hq.pc
  omega
 refine vo ?_
 refine VCo.weak (Weak.perm (H':=(bq,.cells 51 4 [.gs none 0,.gs none 0,.gs none 0,.gs none 0])::(bp,.cells 3 (cp*1) (c.pc.map iD))::shp gr 22 1 (rgC rs) (shp gb 117 1 (c.bufs.map buf) (shp gm 3 1 (c.mem.map iD) (rgH rs [])))) (y'b fun a=>by simp only[OC.h,x'J,z'1,y'f,y'G,z'V,z'6,y'a];omega)) ?_
 revert bq
 intro b8
 refine VCo.nodup fun hn=>?_
 have n1: ¬b8=bp:=fun h=>by subst h;simp[Heap.blocks]at hn
 have e20:(x.op == 20)=false:=by simp[ho20]
 have e21:(x.op == 21)=false:=by simp[ho21]
 have e2:(x.op == 2)=false:=by simp[ho2]
 have e3:(x.op == 3)=false:=by simp[ho3]
 have e4:(x.op == 4)=false:=by simp[ho4]
 have e5:(x.op == 5)=false:=by simp[ho5]
 have e6:(x.op == 6)=false:=by simp[ho6]
 have e7:(x.op == 7)=false:=by simp[ho7]
 repeat' first|refine dr (id:=4) T 13 (by kernel_rfl) ?_|refine dr (id:=6) T 9 (by kernel_rfl) ?_|refine gn ?_|refine VCg.nil T ?_;simp only[y'4,WB,Nat.reduceAdd,T56];try(refine fun(bq:Nat) hbq=>?_;(try simp only[HB]at hbq))|apply VCg.step T rfl rfl;focus((try simp (disch:=omega) only[go_sem,Nat.reduceBEq,Nat.reduceAdd,Nat.reduceLeDiff,r1,r2,r4,hw,z'k,z'Q,z'7]);(first|exact rfl|refine⟨?_,rfl⟩;try omega))|refine VCg.alloc T rfl rfl rfl rfl rfl ?_|refine vs T rfl fun K hK=>?_;(try simp (disch:=omega) only[go_sem,Nat.reduceBEq,Nat.reduceAdd,Nat.reduceLeDiff,OC.cs,e20,e21,e2,e3,e4,e5,e6,e7,z'l]);(first|refine hK _ _ ?_;clear hK K|intro bq hbq;(try simp only[HB]at hbq);refine hK _ _ ?_;clear hK K|refine⟨?_,hK _ _ ?_⟩<;>clear hK K;focus(try omega)|refine Op1.callp rfl rfl (cE) rfl ?_;refine hK _ _ ?_;clear hK K|refine Op1.callp rfl rfl (c1) rfl ?_;refine hK _ _ ?_;clear hK K)|refine st rfl ?_|refine sc rfl ?_|refine nl ?_|refine ov ?_
 have hq2:(OC.mk (some (bp,cp)) gr gm gb (rs)).ok (setP c i ((p+1:Nat):Int)):=OC.okP hq i ((p+1:Nat):Int)
 have hcs:(OC.mk (some (bp,cp)) gr gm gb (rs)).cs (setP c i ((p+1:Nat):Int))=[.gs (some (bp,cp)) c.pc.length,.gs gr c.regs.length,.gs gm c.mem.length,.gs gb c.bufs.length]:=by simp[OC.cs,setP,y'N,x'v,y'2,x'p]
 have hpm:((OC.mk (some (bp,cp)) gr gm gb (rs)).h (setP c i ((p+1:Nat):Int)) []).Perm ((bp,.cells 3 (cp*1) ((c.pc.map iD).set (i*1) (iD ((p+1:Nat):Int))))::shp gr 22 1 (rgC rs) (shp gb 117 1 (c.bufs.map buf) (shp gm 3 1 (c.mem.map iD) (rgH rs [])))):=
  y'b fun a=>by simp only[OC.h,setP,y'N,x'v,y'2,x'p,x'J,v'E,z'u,y'n,z'1,y'f,y'G,z'V,z'6,y'a];omega
 rw[show y'R u (setP c i ((p+1:Nat):Int)) m i x row b=(setP c i ((p+1:Nat):Int)) from by simp only[y'R,ho20,ho21,ho2,ho3,ho4,ho5,ho6,ho7,if_false]]
 refine x'g T rfl (by(try simp (disch:=omega) only[hget_ne,hget_eq]);rfl) rfl rfl rfl (z'p _) ?_
 rw[←hcs]
 exact cfz hq2 (fun y hy=>z'd _ (z'd _ (z'd _ (hpm.mem_iff.1 hy)))) true
end Go.Proofs.YtfneeacgkdhldaaGreat
