/- Contracts: where a thread leads, as the reference says. No condition. -/
import Derived.Test.YthlkpnjjkgmlkaaGreatYi
import Derived.Test.YthlkpnjjkgmlkaaGreatLc
namespace Go.Proofs.YthlkpnjjkgmlkaaGreat
set_option maxHeartbeats 16000000
set_option linter.unusedSimpArgs false
set_option linter.unusedVariables false
set_option maxRecDepth 20000
open Go Go.Proofs Go.Vc
attribute [local irreducible] x'v VCg VCw VCx
theorem OC.okR {gp gr gm gb g:G} {pre post:OR} {row:List Int} {c:Cf} {i:Nat} (hq:(OC.mk gp gr gm gb (pre++(g,row)::post)).ok c) (hset:c.regs.set i=fun r'=>(pre++(g,r')::post).map (·.2)) (k:Nat) (n:Int):
  (OC.mk gp gr gm gb (pre++(g,row.set k n)::post)).ok (x'G c i (row.set k n)):=by
 refine⟨hq.pc,by simpa[x'G]using hq.gr,hq.mem,hq.bufs,(congrFun hset _).symm,?_⟩
 intro p hp
 have hgi:gOk g row.length:=hq.row (g,row) (by simp)
 rcases y'2.1 hp with hp|hp
 ·exact hq.row p (y'J _ hp)
 ·rcases z'F.1 hp with rfl|hp
  ·simpa using hgi
  ·exact hq.row p (x'D _ (z'd _ hp))
theorem v'O {pre post:OR} {g:G} {row:List Int} {k:Nat} {n:Int}:rgC (pre++(g,row.set k n)::post)=rgC (pre++(g,row)::post):=by simp[rgC]
section
variable {u : Un} {c : Cf} {m : Int} {i : Nat} {x : Ins} {row : List Int} {b : List En}
theorem Zqc (ho:x.op=20):x'a u c m i x row b=setP c i x.to:=by simp[x'a,ho]
theorem ZkG (ho:x.op=21):x'a u c m i x row b=if y'u u row x.e=0 then setP c i x.to else c:=by simp[x'a,ho]
theorem Zsg (ho:x.op=2):x'a u c m i x row b=x'H c i row x (y'u u row x.e):=by simp[x'a,ho]
theorem Zsh (ho:x.op=3):x'a u c m i x row b=x'H c i row x (w'p c (i:Nat) x.loc):=by simp[x'a,ho]
theorem ZmH (ho:x.op=4):x'a u c m i x row b=if m=1 then y'3 c x.loc.toNat (y'u u row x.e)else x'X c i (v'a m (x.loc,y'u u row x.e) b):=by simp[x'a,ho]
theorem ZmI (ho:x.op=5):x'a u c m i x row b=if y'A c x=y'u u row x.e then y'3 (x'H c i row x (y'A c x)) x.loc.toNat (y'u u row x.f)else x'H c i row x (y'A c x):=by simp[x'a,ho]
theorem Zsi (ho:x.op=6):x'a u c m i x row b=y'3 (x'H c i row x (y'A c x)) x.loc.toNat ((y'A c x+y'u u row x.e).tmod u.md):=by simp[x'a,ho]
theorem Zsj (ho:x.op=7):x'a u c m i x row b=y'3 (x'H c i row x (y'A c x)) x.loc.toNat (y'u u row x.e):=by simp[x'a,ho]
end
theorem Ztd (u:Un) (c:Cf) (hc:OkC c) (m r:Int) {i:Nat} {x:Ins} {row:List Int} {b:List En} {p:Nat} (h:Zbs u c i x row b p) (hE:enT u c m r (i:Nat)=true) (ho:x.op=20):
  Pure Tryz.prog 137 [.agg (unC u),.agg (cfC c),iD m,iD r,iD (i:Nat)] (.tup [.agg (cfC (x'a u (setP c i ((p+1:Nat):Int)) m i x row b)),bD true]):=by
 have h1:=h.pc
 obtain⟨rw,n0,h2,h5,h4,h6,h7⟩:=h.kind
 have hr:=h.thr.reg
 have hb:=h.thr.buf
 have hF:=h.fit
 have l1:=(z'b.1 h1).1
 have l2:=(z'b.1 h2).1
 have l4:=(z'b.1 h4).1
 have l5:=(z'b.1 hr).1
 have l6:=(z'b.1 hb).1
 have r1:(iRs c.pc)[i]?=some [iD (p:Nat)]:=by rw[x'q,h1];rfl
 have r2:(w'A u.code)[i]?=some [.sl false 7 (y'I rw)]:=by rw[x'6,h2];rfl
 have r4:(y'I rw)[p]?=some [iD x.op,iD x.reg,iD x.loc,z'S x.e,z'S x.f,bD x.ne,iD x.to]:=by rw[w'e,h4];rfl
 have rb:(w'o c.bufs)[i]?=some [buf b]:=by rw[x'P,hb];rfl
 have kb:=hc.buf b (z'l hb)
 have kr:=hc.row row (z'l hr)
 have kp:=h.pl
 have hw:IntKind.i64.wrap ((p:Int)+1)=((p+1:Nat):Int):=by rw[w64 (by omega)];omega
 have cc:=w'U c hc
 have cE:=x'5 u c hc m r h.thr
 rw[hE]at cE
 have c1:=x'W u c i row hr x.e h.thr.e kr
 refine Fun.fz ?_
 refine Fun.of T [.cell 10 69,.tmp 11] Tryz.func137 rfl Tryz.ntmps137 Tryz.results137 rfl (by kernel_rfl) ?_
 repeat' first|refine vb (t:=32) rfl rfl rfl rfl ?_|refine vb (t:=69) rfl rfl rfl rfl ?_|refine vs T rfl fun K hK=>?_;(try simp (disch:=omega) only[go_sem,Nat.reduceBEq,Nat.reduceAdd,Nat.reduceLeDiff]);(first|refine hK _ _ ?_;clear hK K|intro bq hbq;(try simp only[HB]at hbq);refine hK _ _ ?_;clear hK K|skip)|refine st rfl ?_|refine nl ?_
 refine Op1.callx rfl rfl cc rfl (fun q hq=>?_)
 refine hK _ _ ?_
 clear hK K
 obtain⟨gp,gr,gm,gb,rs⟩:=q
 rcases gp with _|⟨bp,cp⟩
 ·have h0:c.pc.length=0:=hq.pc
  omega
 refine vo ?_
 refine VCo.weak (Weak.perm (H':=(bq,.cells 69 4 [.gs none 0,.gs none 0,.gs none 0,.gs none 0])::(bp,.cells 3 (cp*1) (c.pc.map iD))::shp gr 29 1 (rgC rs) (shp gb 119 1 (c.bufs.map buf) (shp gm 3 1 (c.mem.map iD) (rgH rs [])))) (y'X fun a=>by simp only[OC.h,x'S,y'5,y'6,x'l,y'z,y'M,y'V];omega)) ?_
 revert bq
 intro b8
 refine VCo.nodup fun hn=>?_
 have n1: ¬b8=bp:=fun h=>by subst h;simp[Heap.blocks]at hn
 have e20:(x.op == 20)=true:=by rw[ho];rfl
 repeat' first|refine dr (id:=4) T 13 (by kernel_rfl) ?_|refine dr (id:=6) T 9 (by kernel_rfl) ?_|refine gn ?_|refine VCg.nil T ?_;simp only[x'r,WB,Nat.reduceAdd,T104];try(refine fun(bq:Nat) hbq=>?_;(try simp only[HB]at hbq))|apply VCg.step T rfl rfl;focus((try simp (disch:=omega) only[go_sem,Nat.reduceBEq,Nat.reduceAdd,Nat.reduceLeDiff,r1,r2,r4,hw,z'o,z'V,z'4]);(first|exact rfl|refine⟨?_,rfl⟩;try omega))|refine VCg.alloc T rfl rfl rfl rfl rfl ?_|refine vs T rfl fun K hK=>?_;(try simp (disch:=omega) only[go_sem,Nat.reduceBEq,Nat.reduceAdd,Nat.reduceLeDiff,OC.cs,x'w,e20,z'P]);(first|refine hK _ _ ?_;clear hK K|intro bq hbq;(try simp only[HB]at hbq);refine hK _ _ ?_;clear hK K|refine⟨?_,hK _ _ ?_⟩<;>clear hK K;focus(try omega)|refine Op1.callp rfl rfl (cE) rfl ?_;refine hK _ _ ?_;clear hK K|refine Op1.callp rfl rfl (c1) rfl ?_;refine hK _ _ ?_;clear hK K)|refine st rfl ?_|refine sc rfl ?_|refine nl ?_|refine ov ?_
 have hq2:(OC.mk (some (bp,cp)) gr gm gb (rs)).ok (setP (setP c i ((p+1:Nat):Int)) i x.to):=OC.okP (OC.okP hq i ((p+1:Nat):Int)) i _
 have hcs:(OC.mk (some (bp,cp)) gr gm gb (rs)).cs (setP (setP c i ((p+1:Nat):Int)) i x.to)=[.gs (some (bp,cp)) c.pc.length,.gs gr c.regs.length,.gs gm c.mem.length,.gs gb c.bufs.length]:=by simp[OC.cs,setP,y'3,x'X,x'H,x'G]
 have hpm:((OC.mk (some (bp,cp)) gr gm gb (rs)).h (setP (setP c i ((p+1:Nat):Int)) i x.to) []).Perm ((bp,.cells 3 (cp*1) (((c.pc.map iD).set (i*1) (iD ((p+1:Nat):Int))).set (i*1) (iD x.to)))::shp gr 29 1 (rgC rs) (shp gb 119 1 (c.bufs.map buf) (shp gm 3 1 (c.mem.map iD) (rgH rs [])))):=
  y'X fun a=>by simp only[OC.h,setP,y'3,x'X,x'H,x'G,x'S,v'O,y'd,y'P,y'5,y'6,x'l,y'z,y'M,y'V];omega
 rw[Zqc ho]
 refine x'8 T rfl (by(try simp (disch:=omega) only[hget_ne,hget_eq]);rfl) rfl rfl rfl (z'v _) ?_
 rw[←hcs]
 exact cfz hq2 (fun y hy=>z'd _ (z'd _ (z'd _ (hpm.mem_iff.1 hy)))) true
theorem Zrq (u:Un) (c:Cf) (hc:OkC c) (m r:Int) {i:Nat} {x:Ins} {row:List Int} {b:List En} {p:Nat} (h:Zbs u c i x row b p) (hE:enT u c m r (i:Nat)=true) (ho:x.op=21) (h0:y'u u row x.e=0):
  Pure Tryz.prog 137 [.agg (unC u),.agg (cfC c),iD m,iD r,iD (i:Nat)] (.tup [.agg (cfC (x'a u (setP c i ((p+1:Nat):Int)) m i x row b)),bD true]):=by
 have h1:=h.pc
 obtain⟨rw,n0,h2,h5,h4,h6,h7⟩:=h.kind
 have hr:=h.thr.reg
 have hb:=h.thr.buf
 have hF:=h.fit
 have l1:=(z'b.1 h1).1
 have l2:=(z'b.1 h2).1
 have l4:=(z'b.1 h4).1
 have l5:=(z'b.1 hr).1
 have l6:=(z'b.1 hb).1
 have r1:(iRs c.pc)[i]?=some [iD (p:Nat)]:=by rw[x'q,h1];rfl
 have r2:(w'A u.code)[i]?=some [.sl false 7 (y'I rw)]:=by rw[x'6,h2];rfl
 have r4:(y'I rw)[p]?=some [iD x.op,iD x.reg,iD x.loc,z'S x.e,z'S x.f,bD x.ne,iD x.to]:=by rw[w'e,h4];rfl
 have rb:(w'o c.bufs)[i]?=some [buf b]:=by rw[x'P,hb];rfl
 have kb:=hc.buf b (z'l hb)
 have kr:=hc.row row (z'l hr)
 have kp:=h.pl
 have hw:IntKind.i64.wrap ((p:Int)+1)=((p+1:Nat):Int):=by rw[w64 (by omega)];omega
 have cc:=w'U c hc
 have cE:=x'5 u c hc m r h.thr
 rw[hE]at cE
 have c1:=x'W u c i row hr x.e h.thr.e kr
 have e0:(y'u u row x.e == 0)=true:=by simpa using h0
 refine Fun.fz ?_
 refine Fun.of T [.cell 10 69,.tmp 11] Tryz.func137 rfl Tryz.ntmps137 Tryz.results137 rfl (by kernel_rfl) ?_
 repeat' first|refine vb (t:=32) rfl rfl rfl rfl ?_|refine vb (t:=69) rfl rfl rfl rfl ?_|refine vs T rfl fun K hK=>?_;(try simp (disch:=omega) only[go_sem,Nat.reduceBEq,Nat.reduceAdd,Nat.reduceLeDiff]);(first|refine hK _ _ ?_;clear hK K|intro bq hbq;(try simp only[HB]at hbq);refine hK _ _ ?_;clear hK K|skip)|refine st rfl ?_|refine nl ?_
 refine Op1.callx rfl rfl cc rfl (fun q hq=>?_)
 refine hK _ _ ?_
 clear hK K
 obtain⟨gp,gr,gm,gb,rs⟩:=q
 rcases gp with _|⟨bp,cp⟩
 ·have h0:c.pc.length=0:=hq.pc
  omega
 refine vo ?_
 refine VCo.weak (Weak.perm (H':=(bq,.cells 69 4 [.gs none 0,.gs none 0,.gs none 0,.gs none 0])::(bp,.cells 3 (cp*1) (c.pc.map iD))::shp gr 29 1 (rgC rs) (shp gb 119 1 (c.bufs.map buf) (shp gm 3 1 (c.mem.map iD) (rgH rs [])))) (y'X fun a=>by simp only[OC.h,x'S,y'5,y'6,x'l,y'z,y'M,y'V];omega)) ?_
 revert bq
 intro b8
 refine VCo.nodup fun hn=>?_
 have n1: ¬b8=bp:=fun h=>by subst h;simp[Heap.blocks]at hn
 have e20:(x.op == 20)=false:=by rw[ho];rfl
 have e21:(x.op == 21)=true:=by rw[ho];rfl
 repeat' first|refine dr (id:=4) T 13 (by kernel_rfl) ?_|refine dr (id:=6) T 9 (by kernel_rfl) ?_|refine gn ?_|refine VCg.nil T ?_;simp only[x'r,WB,Nat.reduceAdd,T104];try(refine fun(bq:Nat) hbq=>?_;(try simp only[HB]at hbq))|apply VCg.step T rfl rfl;focus((try simp (disch:=omega) only[go_sem,Nat.reduceBEq,Nat.reduceAdd,Nat.reduceLeDiff,r1,r2,r4,hw,z'o,z'V,z'4]);(first|exact rfl|refine⟨?_,rfl⟩;try omega))|refine VCg.alloc T rfl rfl rfl rfl rfl ?_|refine vs T rfl fun K hK=>?_;(try simp (disch:=omega) only[go_sem,Nat.reduceBEq,Nat.reduceAdd,Nat.reduceLeDiff,OC.cs,x'w,e20,e21,e0,z'P]);(first|refine hK _ _ ?_;clear hK K|intro bq hbq;(try simp only[HB]at hbq);refine hK _ _ ?_;clear hK K|refine⟨?_,hK _ _ ?_⟩<;>clear hK K;focus(try omega)|refine Op1.callp rfl rfl (cE) rfl ?_;refine hK _ _ ?_;clear hK K|refine Op1.callp rfl rfl (c1) rfl ?_;refine hK _ _ ?_;clear hK K)|refine st rfl ?_|refine sc rfl ?_|refine nl ?_|refine ov ?_
 have hq2:(OC.mk (some (bp,cp)) gr gm gb (rs)).ok (setP (setP c i ((p+1:Nat):Int)) i x.to):=OC.okP (OC.okP hq i ((p+1:Nat):Int)) i _
 have hcs:(OC.mk (some (bp,cp)) gr gm gb (rs)).cs (setP (setP c i ((p+1:Nat):Int)) i x.to)=[.gs (some (bp,cp)) c.pc.length,.gs gr c.regs.length,.gs gm c.mem.length,.gs gb c.bufs.length]:=by simp[OC.cs,setP,y'3,x'X,x'H,x'G]
 have hpm:((OC.mk (some (bp,cp)) gr gm gb (rs)).h (setP (setP c i ((p+1:Nat):Int)) i x.to) []).Perm ((bp,.cells 3 (cp*1) (((c.pc.map iD).set (i*1) (iD ((p+1:Nat):Int))).set (i*1) (iD x.to)))::shp gr 29 1 (rgC rs) (shp gb 119 1 (c.bufs.map buf) (shp gm 3 1 (c.mem.map iD) (rgH rs [])))):=
  y'X fun a=>by simp only[OC.h,setP,y'3,x'X,x'H,x'G,x'S,v'O,y'd,y'P,y'5,y'6,x'l,y'z,y'M,y'V];omega
 rw[ZkG ho,if_pos h0]
 refine x'8 T rfl (by(try simp (disch:=omega) only[hget_ne,hget_eq]);rfl) rfl rfl rfl (z'v _) ?_
 rw[←hcs]
 exact cfz hq2 (fun y hy=>z'd _ (z'd _ (z'd _ (hpm.mem_iff.1 hy)))) true
theorem Zrp (u:Un) (c:Cf) (hc:OkC c) (m r:Int) {i:Nat} {x:Ins} {row:List Int} {b:List En} {p:Nat} (h:Zbs u c i x row b p) (hE:enT u c m r (i:Nat)=true) (ho:x.op=21) (h0: ¬y'u u row x.e=0):
  Pure Tryz.prog 137 [.agg (unC u),.agg (cfC c),iD m,iD r,iD (i:Nat)] (.tup [.agg (cfC (x'a u (setP c i ((p+1:Nat):Int)) m i x row b)),bD true]):=by
 have h1:=h.pc
 obtain⟨rw,n0,h2,h5,h4,h6,h7⟩:=h.kind
 have hr:=h.thr.reg
 have hb:=h.thr.buf
 have hF:=h.fit
 have l1:=(z'b.1 h1).1
 have l2:=(z'b.1 h2).1
 have l4:=(z'b.1 h4).1
 have l5:=(z'b.1 hr).1
 have l6:=(z'b.1 hb).1
 have r1:(iRs c.pc)[i]?=some [iD (p:Nat)]:=by rw[x'q,h1];rfl
 have r2:(w'A u.code)[i]?=some [.sl false 7 (y'I rw)]:=by rw[x'6,h2];rfl
 have r4:(y'I rw)[p]?=some [iD x.op,iD x.reg,iD x.loc,z'S x.e,z'S x.f,bD x.ne,iD x.to]:=by rw[w'e,h4];rfl
 have rb:(w'o c.bufs)[i]?=some [buf b]:=by rw[x'P,hb];rfl
 have kb:=hc.buf b (z'l hb)
 have kr:=hc.row row (z'l hr)
 have kp:=h.pl
 have hw:IntKind.i64.wrap ((p:Int)+1)=((p+1:Nat):Int):=by rw[w64 (by omega)];omega
 have cc:=w'U c hc
 have cE:=x'5 u c hc m r h.thr
 rw[hE]at cE
 have c1:=x'W u c i row hr x.e h.thr.e kr
 have e0:(y'u u row x.e == 0)=false:=by simpa using h0
 refine Fun.fz ?_
 refine Fun.of T [.cell 10 69,.tmp 11] Tryz.func137 rfl Tryz.ntmps137 Tryz.results137 rfl (by kernel_rfl) ?_
 repeat' first|refine vb (t:=32) rfl rfl rfl rfl ?_|refine vb (t:=69) rfl rfl rfl rfl ?_|refine vs T rfl fun K hK=>?_;(try simp (disch:=omega) only[go_sem,Nat.reduceBEq,Nat.reduceAdd,Nat.reduceLeDiff]);(first|refine hK _ _ ?_;clear hK K|intro bq hbq;(try simp only[HB]at hbq);refine hK _ _ ?_;clear hK K|skip)|refine st rfl ?_|refine nl ?_
 refine Op1.callx rfl rfl cc rfl (fun q hq=>?_)
 refine hK _ _ ?_
 clear hK K
 obtain⟨gp,gr,gm,gb,rs⟩:=q
 rcases gp with _|⟨bp,cp⟩
 ·have h0:c.pc.length=0:=hq.pc
  omega
 refine vo ?_
 refine VCo.weak (Weak.perm (H':=(bq,.cells 69 4 [.gs none 0,.gs none 0,.gs none 0,.gs none 0])::(bp,.cells 3 (cp*1) (c.pc.map iD))::shp gr 29 1 (rgC rs) (shp gb 119 1 (c.bufs.map buf) (shp gm 3 1 (c.mem.map iD) (rgH rs [])))) (y'X fun a=>by simp only[OC.h,x'S,y'5,y'6,x'l,y'z,y'M,y'V];omega)) ?_
 revert bq
 intro b8
 refine VCo.nodup fun hn=>?_
 have n1: ¬b8=bp:=fun h=>by subst h;simp[Heap.blocks]at hn
 have e20:(x.op == 20)=false:=by rw[ho];rfl
 have e21:(x.op == 21)=true:=by rw[ho];rfl
 repeat' first|refine dr (id:=4) T 13 (by kernel_rfl) ?_|refine dr (id:=6) T 9 (by kernel_rfl) ?_|refine VCg.nil T ?_;simp only[x'r,WB,Nat.reduceAdd,T104];try(refine fun(bq:Nat) hbq=>?_;(try simp only[HB]at hbq))|apply VCg.step T rfl rfl;focus((try simp (disch:=omega) only[go_sem,Nat.reduceBEq,Nat.reduceAdd,Nat.reduceLeDiff,r1,r2,r4,hw,z'o,z'V,z'4]);(first|exact rfl|refine⟨?_,rfl⟩;try omega))|refine VCg.alloc T rfl rfl rfl rfl rfl ?_|refine mq2 (x'f @OC.cs.eq_1 @e20 @e21 @e0) (z'X cE c1) ?_|refine mqn fun bq hbq=>?_|refine .wk ?_ ?_;focus(try omega)|refine ov ?_|fail
 have hq2:(OC.mk (some (bp,cp)) gr gm gb (rs)).ok (setP c i ((p+1:Nat):Int)):=OC.okP hq i ((p+1:Nat):Int)
 have hcs:(OC.mk (some (bp,cp)) gr gm gb (rs)).cs (setP c i ((p+1:Nat):Int))=[.gs (some (bp,cp)) c.pc.length,.gs gr c.regs.length,.gs gm c.mem.length,.gs gb c.bufs.length]:=by simp[OC.cs,setP,y'3,x'X,x'H,x'G]
 have hpm:((OC.mk (some (bp,cp)) gr gm gb (rs)).h (setP c i ((p+1:Nat):Int)) []).Perm ((bp,.cells 3 (cp*1) ((c.pc.map iD).set (i*1) (iD ((p+1:Nat):Int))))::shp gr 29 1 (rgC rs) (shp gb 119 1 (c.bufs.map buf) (shp gm 3 1 (c.mem.map iD) (rgH rs [])))):=
  y'X fun a=>by simp only[OC.h,setP,y'3,x'X,x'H,x'G,x'S,v'O,y'd,y'P,y'5,y'6,x'l,y'z,y'M,y'V];omega
 rw[ZkG ho,if_neg h0]
 refine x'8 T rfl (by(try simp (disch:=omega) only[hget_ne,hget_eq]);rfl) rfl rfl rfl (z'v _) ?_
 rw[←hcs]
 exact cfz hq2 (fun y hy=>z'd _ (z'd _ (z'd _ (hpm.mem_iff.1 hy)))) true
theorem Zth (u:Un) (c:Cf) (hc:OkC c) (m r:Int) {i:Nat} {x:Ins} {row:List Int} {b:List En} {p:Nat} (h:Zbs u c i x row b p) (hE:enT u c m r (i:Nat)=true) (ho:x.op=5) (h0:y'A c x=y'u u row x.e):
  Pure Tryz.prog 137 [.agg (unC u),.agg (cfC c),iD m,iD r,iD (i:Nat)] (.tup [.agg (cfC (x'a u (setP c i ((p+1:Nat):Int)) m i x row b)),bD true]):=by
 have h1:=h.pc
 obtain⟨rw,n0,h2,h5,h4,h6,h7⟩:=h.kind
 have hr:=h.thr.reg
 have hb:=h.thr.buf
 have hF:=h.fit
 have l1:=(z'b.1 h1).1
 have l2:=(z'b.1 h2).1
 have l4:=(z'b.1 h4).1
 have l5:=(z'b.1 hr).1
 have l6:=(z'b.1 hb).1
 have r1:(iRs c.pc)[i]?=some [iD (p:Nat)]:=by rw[x'q,h1];rfl
 have r2:(w'A u.code)[i]?=some [.sl false 7 (y'I rw)]:=by rw[x'6,h2];rfl
 have r4:(y'I rw)[p]?=some [iD x.op,iD x.reg,iD x.loc,z'S x.e,z'S x.f,bD x.ne,iD x.to]:=by rw[w'e,h4];rfl
 have rb:(w'o c.bufs)[i]?=some [buf b]:=by rw[x'P,hb];rfl
 have kb:=hc.buf b (z'l hb)
 have kr:=hc.row row (z'l hr)
 have kp:=h.pl
 have hw:IntKind.i64.wrap ((p:Int)+1)=((p+1:Nat):Int):=by rw[w64 (by omega)];omega
 have cc:=w'U c hc
 have cE:=x'5 u c hc m r h.thr
 rw[hE]at cE
 have c1:=x'W u c i row hr x.e h.thr.e kr
 have hx:0≤x.reg∧x.reg<(row.length:Int):=hF.r (by omega)
 have hl:0≤x.loc∧x.loc<(c.mem.length:Int):=hF.l (by omega)
 have rm:(iRs c.mem)[x.loc.toNat]?=some [iD (y'A c x)]:=by
  have hv:=z'c (show x.loc.toNat<c.mem.length by omega)
  rw[x'q,hv]
  simp[y'A,z'g,hv]
 have c1f:=x'W u c i row hr x.f h.thr.f kr
 have e0:(y'A c x == y'u u row x.e)=true:=by simpa using h0
 refine Fun.fz ?_
 refine Fun.of T [.cell 10 69,.tmp 11] Tryz.func137 rfl Tryz.ntmps137 Tryz.results137 rfl (by kernel_rfl) ?_
 repeat' first|refine vb (t:=32) rfl rfl rfl rfl ?_|refine vb (t:=69) rfl rfl rfl rfl ?_|refine vs T rfl fun K hK=>?_;(try simp (disch:=omega) only[go_sem,Nat.reduceBEq,Nat.reduceAdd,Nat.reduceLeDiff]);(first|refine hK _ _ ?_;clear hK K|intro bq hbq;(try simp only[HB]at hbq);refine hK _ _ ?_;clear hK K|skip)|refine st rfl ?_|refine nl ?_
 refine Op1.callx rfl rfl cc rfl (fun q hq=>?_)
 refine hK _ _ ?_
 clear hK K
 obtain⟨gp,gr,gm,gb,rs⟩:=q
 rcases gp with _|⟨bp,cp⟩
 ·have h0:c.pc.length=0:=hq.pc
  omega
 rcases gm with _|⟨bm,cm⟩
 ·have h0:c.mem.length=0:=hq.mem
  omega
 rcases gr with _|⟨br,cr⟩
 ·have h0:c.regs.length=0:=hq.gr
  omega
 obtain⟨pre,post,gi,rfl,hpl,hset⟩:=Zcv hq.rows hr
 have hgi:gOk gi row.length:=hq.row (gi,row) (by simp)
 rcases gi with _|⟨bi,ci⟩
 ·have h0:row.length=0:=hgi
  omega
 have hrc:(rgC (pre++(some (bi,ci),row)::post))[i*1]?=some (.gs (some (bi,ci)) row.length):=by
  rw[y'd]
  simp[rgC, ←hpl]
 refine vo ?_
 refine VCo.weak (Weak.perm (H':=(bq,.cells 69 4 [.gs none 0,.gs none 0,.gs none 0,.gs none 0])::(bp,.cells 3 (cp*1) (c.pc.map iD))::(br,.cells 29 (cr*1) (rgC (pre++(some (bi,ci),row)::post)))::(bi,.cells 3 (ci*1) (row.map iD))::(bm,.cells 3 (cm*1) (c.mem.map iD))::shp gb 119 1 (c.bufs.map buf) (rgH pre (rgH post []))) (y'X fun a=>by simp only[OC.h,x'S,y'5,y'6,x'l,y'z,y'M,y'V];omega)) ?_
 revert bq
 intro b8
 refine VCo.nodup fun hn=>?_
 have n1: ¬b8=bp:=fun h=>by subst h;simp[Heap.blocks]at hn
 have n2: ¬b8=br:=fun h=>by subst h;simp[Heap.blocks]at hn
 have n3: ¬b8=bi:=fun h=>by subst h;simp[Heap.blocks]at hn
 have n4: ¬b8=bm:=fun h=>by subst h;simp[Heap.blocks]at hn
 have n5: ¬bp=br:=fun h=>by subst h;simp[Heap.blocks]at hn
 have n6: ¬bp=bi:=fun h=>by subst h;simp[Heap.blocks]at hn
 have n7: ¬bp=bm:=fun h=>by subst h;simp[Heap.blocks]at hn
 have n8: ¬br=bi:=fun h=>by subst h;simp[Heap.blocks]at hn
 have n9: ¬br=bm:=fun h=>by subst h;simp[Heap.blocks]at hn
 have n10: ¬bi=bm:=fun h=>by subst h;simp[Heap.blocks]at hn
 have e20:(x.op == 20)=false:=by rw[ho];rfl
 have e21:(x.op == 21)=false:=by rw[ho];rfl
 have e2:(x.op == 2)=false:=by rw[ho];rfl
 have e3:(x.op == 3)=false:=by rw[ho];rfl
 have e4:(x.op == 4)=false:=by rw[ho];rfl
 have e5:(x.op == 5)=true:=by rw[ho];rfl
 repeat' first|refine dr (id:=4) T 13 (by kernel_rfl) ?_|refine dr (id:=6) T 9 (by kernel_rfl) ?_|refine dr (id:=22) T 13 (by kernel_rfl) ?_|refine dr (id:=24) T 10 (by kernel_rfl) ?_|refine VCg.nil T ?_;simp only[x'r,WB,Nat.reduceAdd,T104];try(refine fun(bq:Nat) hbq=>?_;(try simp only[HB]at hbq))|apply VCg.step T rfl rfl;focus((try simp (disch:=omega) only[go_sem,Nat.reduceBEq,Nat.reduceAdd,Nat.reduceLeDiff,rm,r1,r2,r4,hw,z'o,z'V,z'4,hrc]);(first|exact rfl|refine⟨?_,rfl⟩;try omega|refine Op1.callp rfl rfl (c1f) rfl ?_;exact⟨rfl,rfl⟩))|refine VCg.alloc T rfl rfl rfl rfl rfl ?_|refine mq2 (Zaa @OC.cs.eq_1 @e20 @e21 @e2 @e3 @e4 @e5 @e0 @rm @z'o) (z'X cE c1) ?_|refine mqn fun bq hbq=>?_|refine .wk ?_ ?_;focus(try omega)|refine ov ?_|fail
 have hq2:(OC.mk (some (bp,cp)) (some (br,cr)) (some (bm,cm)) gb (pre++(some (bi,ci),row.set x.reg.toNat (y'A c x))::post)).ok (y'3 (x'G (setP c i ((p+1:Nat):Int)) i (row.set x.reg.toNat (y'A c x))) x.loc.toNat (y'u u row x.f)):=OC.okM (OC.okR (OC.okP hq i ((p+1:Nat):Int)) hset _ _) _ _
 have hcs:(OC.mk (some (bp,cp)) (some (br,cr)) (some (bm,cm)) gb (pre++(some (bi,ci),row.set x.reg.toNat (y'A c x))::post)).cs (y'3 (x'G (setP c i ((p+1:Nat):Int)) i (row.set x.reg.toNat (y'A c x))) x.loc.toNat (y'u u row x.f))=[.gs (some (bp,cp)) c.pc.length,.gs (some (br,cr)) c.regs.length,.gs (some (bm,cm)) c.mem.length,.gs gb c.bufs.length]:=by simp[OC.cs,setP,y'3,x'X,x'H,x'G]
 have hpm:((OC.mk (some (bp,cp)) (some (br,cr)) (some (bm,cm)) gb (pre++(some (bi,ci),row.set x.reg.toNat (y'A c x))::post)).h (y'3 (x'G (setP c i ((p+1:Nat):Int)) i (row.set x.reg.toNat (y'A c x))) x.loc.toNat (y'u u row x.f)) []).Perm ((bp,.cells 3 (cp*1) ((c.pc.map iD).set (i*1) (iD ((p+1:Nat):Int))))::(br,.cells 29 (cr*1) (rgC (pre++(some (bi,ci),row)::post)))::(bi,.cells 3 (ci*1) ((row.map iD).set (x.reg.toNat*1) (iD (y'A c x))))::(bm,.cells 3 (cm*1) ((c.mem.map iD).set (x.loc.toNat*1) (iD (y'u u row x.f))))::shp gb 119 1 (c.bufs.map buf) (rgH pre (rgH post []))):=
  y'X fun a=>by simp only[OC.h,setP,y'3,x'X,x'H,x'G,x'S,v'O,y'd,y'P,y'5,y'6,x'l,y'z,y'M,y'V];omega
 rw[ZmI ho,if_pos (show y'A (setP c i ((p+1:Nat):Int)) x=y'u u row x.e from h0)]
 refine x'8 T rfl (by(try simp (disch:=omega) only[hget_ne,hget_eq]);rfl) rfl rfl rfl (z'v _) ?_
 rw[←hcs]
 exact cfz hq2 (fun y hy=>z'd _ (z'd _ (z'd _ (hpm.mem_iff.1 hy)))) true
theorem Ztg (u:Un) (c:Cf) (hc:OkC c) (m r:Int) {i:Nat} {x:Ins} {row:List Int} {b:List En} {p:Nat} (h:Zbs u c i x row b p) (hE:enT u c m r (i:Nat)=true) (ho:x.op=5) (h0: ¬y'A c x=y'u u row x.e):
  Pure Tryz.prog 137 [.agg (unC u),.agg (cfC c),iD m,iD r,iD (i:Nat)] (.tup [.agg (cfC (x'a u (setP c i ((p+1:Nat):Int)) m i x row b)),bD true]):=by
 have h1:=h.pc
 obtain⟨rw,n0,h2,h5,h4,h6,h7⟩:=h.kind
 have hr:=h.thr.reg
 have hb:=h.thr.buf
 have hF:=h.fit
 have l1:=(z'b.1 h1).1
 have l2:=(z'b.1 h2).1
 have l4:=(z'b.1 h4).1
 have l5:=(z'b.1 hr).1
 have l6:=(z'b.1 hb).1
 have r1:(iRs c.pc)[i]?=some [iD (p:Nat)]:=by rw[x'q,h1];rfl
 have r2:(w'A u.code)[i]?=some [.sl false 7 (y'I rw)]:=by rw[x'6,h2];rfl
 have r4:(y'I rw)[p]?=some [iD x.op,iD x.reg,iD x.loc,z'S x.e,z'S x.f,bD x.ne,iD x.to]:=by rw[w'e,h4];rfl
 have rb:(w'o c.bufs)[i]?=some [buf b]:=by rw[x'P,hb];rfl
 have kb:=hc.buf b (z'l hb)
 have kr:=hc.row row (z'l hr)
 have kp:=h.pl
 have hw:IntKind.i64.wrap ((p:Int)+1)=((p+1:Nat):Int):=by rw[w64 (by omega)];omega
 have cc:=w'U c hc
 have cE:=x'5 u c hc m r h.thr
 rw[hE]at cE
 have c1:=x'W u c i row hr x.e h.thr.e kr
 have hx:0≤x.reg∧x.reg<(row.length:Int):=hF.r (by omega)
 have hl:0≤x.loc∧x.loc<(c.mem.length:Int):=hF.l (by omega)
 have rm:(iRs c.mem)[x.loc.toNat]?=some [iD (y'A c x)]:=by
  have hv:=z'c (show x.loc.toNat<c.mem.length by omega)
  rw[x'q,hv]
  simp[y'A,z'g,hv]
 have c1f:=x'W u c i row hr x.f h.thr.f kr
 have e0:(y'A c x == y'u u row x.e)=false:=by simpa using h0
 refine Fun.fz ?_
 refine Fun.of T [.cell 10 69,.tmp 11] Tryz.func137 rfl Tryz.ntmps137 Tryz.results137 rfl (by kernel_rfl) ?_
 repeat' first|refine vb (t:=32) rfl rfl rfl rfl ?_|refine vb (t:=69) rfl rfl rfl rfl ?_|refine vs T rfl fun K hK=>?_;(try simp (disch:=omega) only[go_sem,Nat.reduceBEq,Nat.reduceAdd,Nat.reduceLeDiff]);(first|refine hK _ _ ?_;clear hK K|intro bq hbq;(try simp only[HB]at hbq);refine hK _ _ ?_;clear hK K|skip)|refine st rfl ?_|refine nl ?_
 refine Op1.callx rfl rfl cc rfl (fun q hq=>?_)
 refine hK _ _ ?_
 clear hK K
 obtain⟨gp,gr,gm,gb,rs⟩:=q
 rcases gp with _|⟨bp,cp⟩
 ·have h0:c.pc.length=0:=hq.pc
  omega
 rcases gr with _|⟨br,cr⟩
 ·have h0:c.regs.length=0:=hq.gr
  omega
 obtain⟨pre,post,gi,rfl,hpl,hset⟩:=Zcv hq.rows hr
 have hgi:gOk gi row.length:=hq.row (gi,row) (by simp)
 rcases gi with _|⟨bi,ci⟩
 ·have h0:row.length=0:=hgi
  omega
 have hrc:(rgC (pre++(some (bi,ci),row)::post))[i*1]?=some (.gs (some (bi,ci)) row.length):=by
  rw[y'd]
  simp[rgC, ←hpl]
 refine vo ?_
 refine VCo.weak (Weak.perm (H':=(bq,.cells 69 4 [.gs none 0,.gs none 0,.gs none 0,.gs none 0])::(bp,.cells 3 (cp*1) (c.pc.map iD))::(br,.cells 29 (cr*1) (rgC (pre++(some (bi,ci),row)::post)))::(bi,.cells 3 (ci*1) (row.map iD))::shp gb 119 1 (c.bufs.map buf) (shp gm 3 1 (c.mem.map iD) (rgH pre (rgH post [])))) (y'X fun a=>by simp only[OC.h,x'S,y'5,y'6,x'l,y'z,y'M,y'V];omega)) ?_
 revert bq
 intro b8
 refine VCo.nodup fun hn=>?_
 have n1: ¬b8=bp:=fun h=>by subst h;simp[Heap.blocks]at hn
 have n2: ¬b8=br:=fun h=>by subst h;simp[Heap.blocks]at hn
 have n3: ¬b8=bi:=fun h=>by subst h;simp[Heap.blocks]at hn
 have n4: ¬bp=br:=fun h=>by subst h;simp[Heap.blocks]at hn
 have n5: ¬bp=bi:=fun h=>by subst h;simp[Heap.blocks]at hn
 have n6: ¬br=bi:=fun h=>by subst h;simp[Heap.blocks]at hn
 have e20:(x.op == 20)=false:=by rw[ho];rfl
 have e21:(x.op == 21)=false:=by rw[ho];rfl
 have e2:(x.op == 2)=false:=by rw[ho];rfl
 have e3:(x.op == 3)=false:=by rw[ho];rfl
 have e4:(x.op == 4)=false:=by rw[ho];rfl
 have e5:(x.op == 5)=true:=by rw[ho];rfl
 repeat' first|refine dr (id:=4) T 13 (by kernel_rfl) ?_|refine dr (id:=6) T 9 (by kernel_rfl) ?_|refine dr (id:=22) T 13 (by kernel_rfl) ?_|refine VCg.nil T ?_;simp only[x'r,WB,Nat.reduceAdd,T104];try(refine fun(bq:Nat) hbq=>?_;(try simp only[HB]at hbq))|apply VCg.step T rfl rfl;focus((try simp (disch:=omega) only[go_sem,Nat.reduceBEq,Nat.reduceAdd,Nat.reduceLeDiff,rm,r1,r2,r4,hw,z'o,z'V,z'4,hrc]);(first|exact rfl|refine⟨?_,rfl⟩;try omega))|refine VCg.alloc T rfl rfl rfl rfl rfl ?_|refine mq2 (Zaa @OC.cs.eq_1 @e20 @e21 @e2 @e3 @e4 @e5 @e0 @rm @z'o) (z'X cE c1) ?_|refine mqn fun bq hbq=>?_|refine .wk ?_ ?_;focus(try omega)|refine ov ?_|fail
 have hq2:(OC.mk (some (bp,cp)) (some (br,cr)) gm gb (pre++(some (bi,ci),row.set x.reg.toNat (y'A c x))::post)).ok (x'G (setP c i ((p+1:Nat):Int)) i (row.set x.reg.toNat (y'A c x))):=OC.okR (OC.okP hq i ((p+1:Nat):Int)) hset _ _
 have hcs:(OC.mk (some (bp,cp)) (some (br,cr)) gm gb (pre++(some (bi,ci),row.set x.reg.toNat (y'A c x))::post)).cs (x'G (setP c i ((p+1:Nat):Int)) i (row.set x.reg.toNat (y'A c x)))=[.gs (some (bp,cp)) c.pc.length,.gs (some (br,cr)) c.regs.length,.gs gm c.mem.length,.gs gb c.bufs.length]:=by simp[OC.cs,setP,y'3,x'X,x'H,x'G]
 have hpm:((OC.mk (some (bp,cp)) (some (br,cr)) gm gb (pre++(some (bi,ci),row.set x.reg.toNat (y'A c x))::post)).h (x'G (setP c i ((p+1:Nat):Int)) i (row.set x.reg.toNat (y'A c x))) []).Perm ((bp,.cells 3 (cp*1) ((c.pc.map iD).set (i*1) (iD ((p+1:Nat):Int))))::(br,.cells 29 (cr*1) (rgC (pre++(some (bi,ci),row)::post)))::(bi,.cells 3 (ci*1) ((row.map iD).set (x.reg.toNat*1) (iD (y'A c x))))::shp gb 119 1 (c.bufs.map buf) (shp gm 3 1 (c.mem.map iD) (rgH pre (rgH post [])))):=
  y'X fun a=>by simp only[OC.h,setP,y'3,x'X,x'H,x'G,x'S,v'O,y'd,y'P,y'5,y'6,x'l,y'z,y'M,y'V];omega
 rw[ZmI ho,if_neg (show ¬y'A (setP c i ((p+1:Nat):Int)) x=y'u u row x.e from h0)]
 refine x'8 T rfl (by(try simp (disch:=omega) only[hget_ne,hget_eq]);rfl) rfl rfl rfl (z'v _) ?_
 rw[←hcs]
 exact cfz hq2 (fun y hy=>z'd _ (z'd _ (z'd _ (hpm.mem_iff.1 hy)))) true
theorem Zuv (u:Un) (c:Cf) (hc:OkC c) (m r:Int) {i:Nat} {x:Ins} {row:List Int} {b:List En} {p:Nat} (h:Zbs u c i x row b p) (hE:enT u c m r (i:Nat)=true) (ho:x.op=6):
  Pure Tryz.prog 137 [.agg (unC u),.agg (cfC c),iD m,iD r,iD (i:Nat)] (.tup [.agg (cfC (x'a u (setP c i ((p+1:Nat):Int)) m i x row b)),bD true]):=by
 have h1:=h.pc
 obtain⟨rw,n0,h2,h5,h4,h6,h7⟩:=h.kind
 have hr:=h.thr.reg
 have hb:=h.thr.buf
 have hF:=h.fit
 have l1:=(z'b.1 h1).1
 have l2:=(z'b.1 h2).1
 have l4:=(z'b.1 h4).1
 have l5:=(z'b.1 hr).1
 have l6:=(z'b.1 hb).1
 have r1:(iRs c.pc)[i]?=some [iD (p:Nat)]:=by rw[x'q,h1];rfl
 have r2:(w'A u.code)[i]?=some [.sl false 7 (y'I rw)]:=by rw[x'6,h2];rfl
 have r4:(y'I rw)[p]?=some [iD x.op,iD x.reg,iD x.loc,z'S x.e,z'S x.f,bD x.ne,iD x.to]:=by rw[w'e,h4];rfl
 have rb:(w'o c.bufs)[i]?=some [buf b]:=by rw[x'P,hb];rfl
 have kb:=hc.buf b (z'l hb)
 have kr:=hc.row row (z'l hr)
 have kp:=h.pl
 have hw:IntKind.i64.wrap ((p:Int)+1)=((p+1:Nat):Int):=by rw[w64 (by omega)];omega
 have cc:=w'U c hc
 have cE:=x'5 u c hc m r h.thr
 rw[hE]at cE
 have c1:=x'W u c i row hr x.e h.thr.e kr
 have hx:0≤x.reg∧x.reg<(row.length:Int):=hF.r (by omega)
 have hl:0≤x.loc∧x.loc<(c.mem.length:Int):=hF.l (by omega)
 have rm:(iRs c.mem)[x.loc.toNat]?=some [iD (y'A c x)]:=by
  have hv:=z'c (show x.loc.toNat<c.mem.length by omega)
  rw[x'q,hv]
  simp[y'A,z'g,hv]
 have hmb:=ZsP hF
 have hvb:=hF.v
 have hmd:=hF.md
 have hwm:IntKind.i64.wrap (y'A c x+y'u u row x.e)=y'A c x+y'u u row x.e:=by
  have:y'A (setP c i ((p+1:Nat):Int)) x=y'A c x:=rfl
  rw[w64 (by omega)]
 refine Fun.fz ?_
 refine Fun.of T [.cell 10 69,.tmp 11] Tryz.func137 rfl Tryz.ntmps137 Tryz.results137 rfl (by kernel_rfl) ?_
 repeat' first|refine vb (t:=32) rfl rfl rfl rfl ?_|refine vb (t:=69) rfl rfl rfl rfl ?_|refine vs T rfl fun K hK=>?_;(try simp (disch:=omega) only[go_sem,Nat.reduceBEq,Nat.reduceAdd,Nat.reduceLeDiff]);(first|refine hK _ _ ?_;clear hK K|intro bq hbq;(try simp only[HB]at hbq);refine hK _ _ ?_;clear hK K|skip)|refine st rfl ?_|refine nl ?_
 refine Op1.callx rfl rfl cc rfl (fun q hq=>?_)
 refine hK _ _ ?_
 clear hK K
 obtain⟨gp,gr,gm,gb,rs⟩:=q
 rcases gp with _|⟨bp,cp⟩
 ·have h0:c.pc.length=0:=hq.pc
  omega
 rcases gm with _|⟨bm,cm⟩
 ·have h0:c.mem.length=0:=hq.mem
  omega
 rcases gr with _|⟨br,cr⟩
 ·have h0:c.regs.length=0:=hq.gr
  omega
 obtain⟨pre,post,gi,rfl,hpl,hset⟩:=Zcv hq.rows hr
 have hgi:gOk gi row.length:=hq.row (gi,row) (by simp)
 rcases gi with _|⟨bi,ci⟩
 ·have h0:row.length=0:=hgi
  omega
 have hrc:(rgC (pre++(some (bi,ci),row)::post))[i*1]?=some (.gs (some (bi,ci)) row.length):=by
  rw[y'd]
  simp[rgC, ←hpl]
 refine vo ?_
 refine VCo.weak (Weak.perm (H':=(bq,.cells 69 4 [.gs none 0,.gs none 0,.gs none 0,.gs none 0])::(bp,.cells 3 (cp*1) (c.pc.map iD))::(br,.cells 29 (cr*1) (rgC (pre++(some (bi,ci),row)::post)))::(bi,.cells 3 (ci*1) (row.map iD))::(bm,.cells 3 (cm*1) (c.mem.map iD))::shp gb 119 1 (c.bufs.map buf) (rgH pre (rgH post []))) (y'X fun a=>by simp only[OC.h,x'S,y'5,y'6,x'l,y'z,y'M,y'V];omega)) ?_
 revert bq
 intro b8
 refine VCo.nodup fun hn=>?_
 have n1: ¬b8=bp:=fun h=>by subst h;simp[Heap.blocks]at hn
 have n2: ¬b8=br:=fun h=>by subst h;simp[Heap.blocks]at hn
 have n3: ¬b8=bi:=fun h=>by subst h;simp[Heap.blocks]at hn
 have n4: ¬b8=bm:=fun h=>by subst h;simp[Heap.blocks]at hn
 have n5: ¬bp=br:=fun h=>by subst h;simp[Heap.blocks]at hn
 have n6: ¬bp=bi:=fun h=>by subst h;simp[Heap.blocks]at hn
 have n7: ¬bp=bm:=fun h=>by subst h;simp[Heap.blocks]at hn
 have n8: ¬br=bi:=fun h=>by subst h;simp[Heap.blocks]at hn
 have n9: ¬br=bm:=fun h=>by subst h;simp[Heap.blocks]at hn
 have n10: ¬bi=bm:=fun h=>by subst h;simp[Heap.blocks]at hn
 have e20:(x.op == 20)=false:=by rw[ho];rfl
 have e21:(x.op == 21)=false:=by rw[ho];rfl
 have e2:(x.op == 2)=false:=by rw[ho];rfl
 have e3:(x.op == 3)=false:=by rw[ho];rfl
 have e4:(x.op == 4)=false:=by rw[ho];rfl
 have e5:(x.op == 5)=false:=by rw[ho];rfl
 have e6:(x.op == 6)=true:=by rw[ho];rfl
 repeat' first|refine dr (id:=4) T 13 (by kernel_rfl) ?_|refine dr (id:=6) T 9 (by kernel_rfl) ?_|refine dr (id:=26) T 13 (by kernel_rfl) ?_|refine dr (id:=27) T 15 (by kernel_rfl) ?_|refine VCg.nil T ?_;simp only[x'r,WB,Nat.reduceAdd,T104];try(refine fun(bq:Nat) hbq=>?_;(try simp only[HB]at hbq))|apply VCg.step T rfl rfl;focus((try simp (disch:=omega) only[go_sem,Nat.reduceBEq,Nat.reduceAdd,Nat.reduceLeDiff,hwm,hmd,ne_eq,not_false_eq_true,rm,r1,r2,r4,hw,z'o,z'V,z'4,hrc]);(first|exact rfl|refine⟨?_,rfl⟩;try omega))|refine VCg.alloc T rfl rfl rfl rfl rfl ?_|refine mq2 (Za1 @OC.cs.eq_1 @e20 @e21 @e2 @e3 @e4 @e5 @e6) (z'X cE c1) ?_|refine mqn fun bq hbq=>?_|refine .wk ?_ ?_;focus(try omega)|refine ov ?_|fail
 have hq2:(OC.mk (some (bp,cp)) (some (br,cr)) (some (bm,cm)) gb (pre++(some (bi,ci),row.set x.reg.toNat (y'A c x))::post)).ok (y'3 (x'G (setP c i ((p+1:Nat):Int)) i (row.set x.reg.toNat (y'A c x))) x.loc.toNat ((y'A c x+y'u u row x.e).tmod u.md)):=OC.okM (OC.okR (OC.okP hq i ((p+1:Nat):Int)) hset _ _) _ _
 have hcs:(OC.mk (some (bp,cp)) (some (br,cr)) (some (bm,cm)) gb (pre++(some (bi,ci),row.set x.reg.toNat (y'A c x))::post)).cs (y'3 (x'G (setP c i ((p+1:Nat):Int)) i (row.set x.reg.toNat (y'A c x))) x.loc.toNat ((y'A c x+y'u u row x.e).tmod u.md))=[.gs (some (bp,cp)) c.pc.length,.gs (some (br,cr)) c.regs.length,.gs (some (bm,cm)) c.mem.length,.gs gb c.bufs.length]:=by simp[OC.cs,setP,y'3,x'X,x'H,x'G]
 have hpm:((OC.mk (some (bp,cp)) (some (br,cr)) (some (bm,cm)) gb (pre++(some (bi,ci),row.set x.reg.toNat (y'A c x))::post)).h (y'3 (x'G (setP c i ((p+1:Nat):Int)) i (row.set x.reg.toNat (y'A c x))) x.loc.toNat ((y'A c x+y'u u row x.e).tmod u.md)) []).Perm ((bp,.cells 3 (cp*1) ((c.pc.map iD).set (i*1) (iD ((p+1:Nat):Int))))::(br,.cells 29 (cr*1) (rgC (pre++(some (bi,ci),row)::post)))::(bi,.cells 3 (ci*1) ((row.map iD).set (x.reg.toNat*1) (iD (y'A c x))))::(bm,.cells 3 (cm*1) ((c.mem.map iD).set (x.loc.toNat*1) (iD ((y'A c x+y'u u row x.e).tmod u.md))))::shp gb 119 1 (c.bufs.map buf) (rgH pre (rgH post []))):=
  y'X fun a=>by simp only[OC.h,setP,y'3,x'X,x'H,x'G,x'S,v'O,y'd,y'P,y'5,y'6,x'l,y'z,y'M,y'V];omega
 rw[Zsi ho]
 refine x'8 T rfl (by(try simp (disch:=omega) only[hget_ne,hget_eq]);rfl) rfl rfl rfl (z'v _) ?_
 rw[←hcs]
 exact cfz hq2 (fun y hy=>z'd _ (z'd _ (z'd _ (hpm.mem_iff.1 hy)))) true
end Go.Proofs.YthlkpnjjkgmlkaaGreat
