/- Contracts: where a thread leads, as the reference says. No condition. -/
import Derived.Test.YthlkpnjjkgmlkaaGreatZf
import Derived.Test.YthlkpnjjkgmlkaaGreatK2
namespace Go.Proofs.YthlkpnjjkgmlkaaGreat
set_option maxHeartbeats 16000000
set_option linter.unusedSimpArgs false
set_option linter.unusedVariables false
set_option maxRecDepth 20000
open Go Go.Proofs Go.Vc
attribute [local irreducible] x'v VCg VCw VCx
theorem Ztf (u:Un) (c:Cf) (hc:OkC c) (m r:Int) {i:Nat} {x:Ins} {row:List Int} {b:List En} {p:Nat} (h:Zbs u c i x row b p) (hE:enT u c m r (i:Nat)=true) (ho:x.op=4) (hm:m=1):
  Pure Tryz.prog 137 [.agg (unC u),.agg (cfC c),iD m,iD r,iD (i:Nat)] (.tup [.agg (cfC (x'a u (setP c i ((p+1:Nat):Int)) m i x row b)),bD true]):=by
 have h1:=h.pc
 obtain⟨rw,n0,h2,h5,h4,h6,h7⟩:=h.kind
 have hr:=h.thr.reg
 have hb:=h.thr.buf
 have hF:=h.fit
 have l1:=(z'b.1 h1).1
 have l2:=(z'b.1 h2).1
 have l4:=(z'b.1 h4).1
 have l5:=(z'b.1 hr).1
 have l6:=(z'b.1 hb).1
 have r1:(iRs c.pc)[i]?=some [iD (p:Nat)]:=by rw[x'q,h1];rfl
 have r2:(w'A u.code)[i]?=some [.sl false 7 (y'I rw)]:=by rw[x'6,h2];rfl
 have r4:(y'I rw)[p]?=some [iD x.op,iD x.reg,iD x.loc,z'S x.e,z'S x.f,bD x.ne,iD x.to]:=by rw[w'e,h4];rfl
 have rb:(w'o c.bufs)[i]?=some [buf b]:=by rw[x'P,hb];rfl
 have kb:=hc.buf b (z'l hb)
 have kr:=hc.row row (z'l hr)
 have kp:=h.pl
 have hw:IntKind.i64.wrap ((p:Int)+1)=((p+1:Nat):Int):=by rw[w64 (by omega)];omega
 have cc:=w'U c hc
 have cE:=x'5 u c hc m r h.thr
 rw[hE]at cE
 have c1:=x'W u c i row hr x.e h.thr.e kr
 have hl:0≤x.loc∧x.loc<(c.mem.length:Int):=hF.l (by omega)
 have rm:(iRs c.mem)[x.loc.toNat]?=some [iD (y'A c x)]:=by
  have hv:=z'c (show x.loc.toNat<c.mem.length by omega)
  rw[x'q,hv]
  simp[y'A,z'g,hv]
 have em:(m == 1)=true:=by simpa using hm
 refine Fun.fz ?_
 refine Fun.of T [.cell 10 69,.tmp 11] Tryz.func137 rfl Tryz.ntmps137 Tryz.results137 rfl (by kernel_rfl) ?_
 repeat' first|refine vb (t:=32) rfl rfl rfl rfl ?_|refine vb (t:=69) rfl rfl rfl rfl ?_|refine vs T rfl fun K hK=>?_;(try simp (disch:=omega) only[go_sem,Nat.reduceBEq,Nat.reduceAdd,Nat.reduceLeDiff]);(first|refine hK _ _ ?_;clear hK K|intro bq hbq;(try simp only[HB]at hbq);refine hK _ _ ?_;clear hK K|skip)|refine st rfl ?_|refine nl ?_
 refine Op1.callx rfl rfl cc rfl (fun q hq=>?_)
 refine hK _ _ ?_
 clear hK K
 obtain⟨gp,gr,gm,gb,rs⟩:=q
 rcases gp with _|⟨bp,cp⟩
 ·have h0:c.pc.length=0:=hq.pc
  omega
 rcases gm with _|⟨bm,cm⟩
 ·have h0:c.mem.length=0:=hq.mem
  omega
 refine vo ?_
 refine VCo.weak (Weak.perm (H':=(bq,.cells 69 4 [.gs none 0,.gs none 0,.gs none 0,.gs none 0])::(bp,.cells 3 (cp*1) (c.pc.map iD))::(bm,.cells 3 (cm*1) (c.mem.map iD))::shp gr 29 1 (rgC rs) (shp gb 119 1 (c.bufs.map buf) (rgH rs []))) (y'X fun a=>by simp only[OC.h,x'S,y'5,y'6,x'l,y'z,y'M,y'V];omega)) ?_
 revert bq
 intro b8
 refine VCo.nodup fun hn=>?_
 have n1: ¬b8=bp:=fun h=>by subst h;simp[Heap.blocks]at hn
 have n2: ¬b8=bm:=fun h=>by subst h;simp[Heap.blocks]at hn
 have n3: ¬bp=bm:=fun h=>by subst h;simp[Heap.blocks]at hn
 have e20:(x.op == 20)=false:=by rw[ho];rfl
 have e21:(x.op == 21)=false:=by rw[ho];rfl
 have e2:(x.op == 2)=false:=by rw[ho];rfl
 have e3:(x.op == 3)=false:=by rw[ho];rfl
 have e4:(x.op == 4)=true:=by rw[ho];rfl
 repeat' first|refine dr (id:=4) T 13 (by kernel_rfl) ?_|refine dr (id:=6) T 9 (by kernel_rfl) ?_|refine VCg.nil T ?_;simp only[x'r,WB,Nat.reduceAdd,T104];try(refine fun(bq:Nat) hbq=>?_;(try simp only[HB]at hbq))|apply VCg.step T rfl rfl;focus((try simp (disch:=omega) only[go_sem,Nat.reduceBEq,Nat.reduceAdd,Nat.reduceLeDiff,r1,r2,r4,hw,z'o,z'V,z'4]);(first|exact rfl|refine⟨?_,rfl⟩;try omega))|refine VCg.alloc T rfl rfl rfl rfl rfl ?_|refine mq2 (v'p @OC.cs.eq_1 @e20 @e21 @e2 @e3 @e4 @em) (z'X cE c1) ?_|refine mqn fun bq hbq=>?_|refine .wk ?_ ?_;focus(try omega)|refine ov ?_|fail
 have hq2:(OC.mk (some (bp,cp)) gr (some (bm,cm)) gb (rs)).ok (y'3 (setP c i ((p+1:Nat):Int)) x.loc.toNat (y'u u row x.e)):=OC.okM (OC.okP hq i ((p+1:Nat):Int)) _ _
 have hcs:(OC.mk (some (bp,cp)) gr (some (bm,cm)) gb (rs)).cs (y'3 (setP c i ((p+1:Nat):Int)) x.loc.toNat (y'u u row x.e))=[.gs (some (bp,cp)) c.pc.length,.gs gr c.regs.length,.gs (some (bm,cm)) c.mem.length,.gs gb c.bufs.length]:=by simp[OC.cs,setP,y'3,x'X,x'H,x'G]
 have hpm:((OC.mk (some (bp,cp)) gr (some (bm,cm)) gb (rs)).h (y'3 (setP c i ((p+1:Nat):Int)) x.loc.toNat (y'u u row x.e)) []).Perm ((bp,.cells 3 (cp*1) ((c.pc.map iD).set (i*1) (iD ((p+1:Nat):Int))))::(bm,.cells 3 (cm*1) ((c.mem.map iD).set (x.loc.toNat*1) (iD (y'u u row x.e))))::shp gr 29 1 (rgC rs) (shp gb 119 1 (c.bufs.map buf) (rgH rs []))):=
  y'X fun a=>by simp only[OC.h,setP,y'3,x'X,x'H,x'G,x'S,v'O,y'd,y'P,y'5,y'6,x'l,y'z,y'M,y'V];omega
 rw[ZmH ho,if_pos hm]
 refine x'8 T rfl (by(try simp (disch:=omega) only[hget_ne,hget_eq]);rfl) rfl rfl rfl (z'v _) ?_
 rw[←hcs]
 exact cfz hq2 (fun y hy=>z'd _ (z'd _ (z'd _ (hpm.mem_iff.1 hy)))) true
theorem Zte (u:Un) (c:Cf) (hc:OkC c) (m r:Int) {i:Nat} {x:Ins} {row:List Int} {b:List En} {p:Nat} (h:Zbs u c i x row b p) (hE:enT u c m r (i:Nat)=true) (ho:x.op=4) (hm: ¬m=1):
  Pure Tryz.prog 137 [.agg (unC u),.agg (cfC c),iD m,iD r,iD (i:Nat)] (.tup [.agg (cfC (x'a u (setP c i ((p+1:Nat):Int)) m i x row b)),bD true]):=by
 have h1:=h.pc
 obtain⟨rw,n0,h2,h5,h4,h6,h7⟩:=h.kind
 have hr:=h.thr.reg
 have hb:=h.thr.buf
 have hF:=h.fit
 have l1:=(z'b.1 h1).1
 have l2:=(z'b.1 h2).1
 have l4:=(z'b.1 h4).1
 have l5:=(z'b.1 hr).1
 have l6:=(z'b.1 hb).1
 have r1:(iRs c.pc)[i]?=some [iD (p:Nat)]:=by rw[x'q,h1];rfl
 have r2:(w'A u.code)[i]?=some [.sl false 7 (y'I rw)]:=by rw[x'6,h2];rfl
 have r4:(y'I rw)[p]?=some [iD x.op,iD x.reg,iD x.loc,z'S x.e,z'S x.f,bD x.ne,iD x.to]:=by rw[w'e,h4];rfl
 have rb:(w'o c.bufs)[i]?=some [buf b]:=by rw[x'P,hb];rfl
 have kb:=hc.buf b (z'l hb)
 have kr:=hc.row row (z'l hr)
 have kp:=h.pl
 have hw:IntKind.i64.wrap ((p:Int)+1)=((p+1:Nat):Int):=by rw[w64 (by omega)];omega
 have cc:=w'U c hc
 have cE:=x'5 u c hc m r h.thr
 rw[hE]at cE
 have c1:=x'W u c i row hr x.e h.thr.e kr
 have em:(m == 1)=false:=by simpa using hm
 have c3:=ZrD b (by omega) m x.loc (y'u u row x.e)
 refine Fun.fz ?_
 refine Fun.of T [.cell 10 69,.tmp 11] Tryz.func137 rfl Tryz.ntmps137 Tryz.results137 rfl (by kernel_rfl) ?_
 repeat' first|refine vb (t:=32) rfl rfl rfl rfl ?_|refine vb (t:=69) rfl rfl rfl rfl ?_|refine vs T rfl fun K hK=>?_;(try simp (disch:=omega) only[go_sem,Nat.reduceBEq,Nat.reduceAdd,Nat.reduceLeDiff]);(first|refine hK _ _ ?_;clear hK K|intro bq hbq;(try simp only[HB]at hbq);refine hK _ _ ?_;clear hK K|skip)|refine st rfl ?_|refine nl ?_
 refine Op1.callx rfl rfl cc rfl (fun q hq=>?_)
 refine hK _ _ ?_
 clear hK K
 obtain⟨gp,gr,gm,gb,rs⟩:=q
 rcases gp with _|⟨bp,cp⟩
 ·have h0:c.pc.length=0:=hq.pc
  omega
 rcases gb with _|⟨bb,cb⟩
 ·have h0:c.bufs.length=0:=hq.bufs
  omega
 refine vo ?_
 refine VCo.weak (Weak.perm (H':=(bq,.cells 69 4 [.gs none 0,.gs none 0,.gs none 0,.gs none 0])::(bp,.cells 3 (cp*1) (c.pc.map iD))::(bb,.cells 119 (cb*1) (c.bufs.map buf))::shp gr 29 1 (rgC rs) (shp gm 3 1 (c.mem.map iD) (rgH rs []))) (y'X fun a=>by simp only[OC.h,x'S,y'5,y'6,x'l,y'z,y'M,y'V];omega)) ?_
 revert bq
 intro b8
 refine VCo.nodup fun hn=>?_
 have n1: ¬b8=bp:=fun h=>by subst h;simp[Heap.blocks]at hn
 have n2: ¬b8=bb:=fun h=>by subst h;simp[Heap.blocks]at hn
 have n3: ¬bp=bb:=fun h=>by subst h;simp[Heap.blocks]at hn
 have e20:(x.op == 20)=false:=by rw[ho];rfl
 have e21:(x.op == 21)=false:=by rw[ho];rfl
 have e2:(x.op == 2)=false:=by rw[ho];rfl
 have e3:(x.op == 3)=false:=by rw[ho];rfl
 have e4:(x.op == 4)=true:=by rw[ho];rfl
 repeat' first|refine dr (id:=4) T 13 (by kernel_rfl) ?_|refine dr (id:=6) T 9 (by kernel_rfl) ?_|refine dr (id:=20) T 14 (by kernel_rfl) ?_|refine VCg.nil T ?_;simp only[x'r,WB,Nat.reduceAdd,T104];try(refine fun(bq:Nat) hbq=>?_;(try simp only[HB]at hbq))|apply VCg.step T rfl rfl;focus((try simp (disch:=omega) only[go_sem,Nat.reduceBEq,Nat.reduceAdd,Nat.reduceLeDiff,rb,y'm,r1,r2,r4,hw,z'o,z'V,z'4]);(first|exact rfl|refine⟨?_,rfl⟩;try omega|refine Op1.callp rfl rfl (c3) rfl ?_;exact⟨rfl,rfl⟩))|refine VCg.alloc T rfl rfl rfl rfl rfl ?_|refine mq2 (v'p @OC.cs.eq_1 @e20 @e21 @e2 @e3 @e4 @em) (z'X cE c1) ?_|refine mqn fun bq hbq=>?_|refine .wk ?_ ?_;focus(try omega)|refine ov ?_|fail
 have hq2:(OC.mk (some (bp,cp)) gr gm (some (bb,cb)) (rs)).ok (x'X (setP c i ((p+1:Nat):Int)) i (v'a m (x.loc,y'u u row x.e) b)):=OC.okB (OC.okP hq i ((p+1:Nat):Int)) _ _
 have hcs:(OC.mk (some (bp,cp)) gr gm (some (bb,cb)) (rs)).cs (x'X (setP c i ((p+1:Nat):Int)) i (v'a m (x.loc,y'u u row x.e) b))=[.gs (some (bp,cp)) c.pc.length,.gs gr c.regs.length,.gs gm c.mem.length,.gs (some (bb,cb)) c.bufs.length]:=by simp[OC.cs,setP,y'3,x'X,x'H,x'G]
 have hpm:((OC.mk (some (bp,cp)) gr gm (some (bb,cb)) (rs)).h (x'X (setP c i ((p+1:Nat):Int)) i (v'a m (x.loc,y'u u row x.e) b)) []).Perm ((bp,.cells 3 (cp*1) ((c.pc.map iD).set (i*1) (iD ((p+1:Nat):Int))))::(bb,.cells 119 (cb*1) ((c.bufs.map buf).set (i*1) (buf (v'a m (x.loc,y'u u row x.e) b))))::shp gr 29 1 (rgC rs) (shp gm 3 1 (c.mem.map iD) (rgH rs []))):=
  y'X fun a=>by simp only[OC.h,setP,y'3,x'X,x'H,x'G,x'S,v'O,y'd,y'P,y'5,y'6,x'l,y'z,y'M,y'V];omega
 rw[ZmH ho,if_neg hm]
 refine x'8 T rfl (by(try simp (disch:=omega) only[hget_ne,hget_eq]);rfl) rfl rfl rfl (z'v _) ?_
 rw[←hcs]
 exact cfz hq2 (fun y hy=>z'd _ (z'd _ (z'd _ (hpm.mem_iff.1 hy)))) true
theorem Zti (u:Un) (c:Cf) (hc:OkC c) (m r:Int) {i:Nat} {x:Ins} {row:List Int} {b:List En} {p:Nat} (h:Zbs u c i x row b p) (hE:enT u c m r (i:Nat)=true) (ho20:x.op≠20) (ho21:x.op≠21) (ho2:x.op≠2) (ho3:x.op≠3) (ho4:x.op≠4) (ho5:x.op≠5) (ho6:x.op≠6) (ho7:x.op≠7):
  Pure Tryz.prog 137 [.agg (unC u),.agg (cfC c),iD m,iD r,iD (i:Nat)] (.tup [.agg (cfC (x'a u (setP c i ((p+1:Nat):Int)) m i x row b)),bD true]):=by
 have h1:=h.pc
 obtain⟨rw,n0,h2,h5,h4,h6,h7⟩:=h.kind
 have hr:=h.thr.reg
 have hb:=h.thr.buf
 have hF:=h.fit
 have l1:=(z'b.1 h1).1
 have l2:=(z'b.1 h2).1
 have l4:=(z'b.1 h4).1
 have l5:=(z'b.1 hr).1
 have l6:=(z'b.1 hb).1
 have r1:(iRs c.pc)[i]?=some [iD (p:Nat)]:=by rw[x'q,h1];rfl
 have r2:(w'A u.code)[i]?=some [.sl false 7 (y'I rw)]:=by rw[x'6,h2];rfl
 have r4:(y'I rw)[p]?=some [iD x.op,iD x.reg,iD x.loc,z'S x.e,z'S x.f,bD x.ne,iD x.to]:=by rw[w'e,h4];rfl
 have rb:(w'o c.bufs)[i]?=some [buf b]:=by rw[x'P,hb];rfl
 have kb:=hc.buf b (z'l hb)
 have kr:=hc.row row (z'l hr)
 have kp:=h.pl
 have hw:IntKind.i64.wrap ((p:Int)+1)=((p+1:Nat):Int):=by rw[w64 (by omega)];omega
 have cc:=w'U c hc
 have cE:=x'5 u c hc m r h.thr
 rw[hE]at cE
 have c1:=x'W u c i row hr x.e h.thr.e kr
 refine Fun.fz ?_
 refine Fun.of T [.cell 10 69,.tmp 11] Tryz.func137 rfl Tryz.ntmps137 Tryz.results137 rfl (by kernel_rfl) ?_
 repeat' first|refine vb (t:=32) rfl rfl rfl rfl ?_|refine vb (t:=69) rfl rfl rfl rfl ?_|refine vs T rfl fun K hK=>?_;(try simp (disch:=omega) only[go_sem,Nat.reduceBEq,Nat.reduceAdd,Nat.reduceLeDiff]);(first|refine hK _ _ ?_;clear hK K|intro bq hbq;(try simp only[HB]at hbq);refine hK _ _ ?_;clear hK K|skip)|refine st rfl ?_|refine nl ?_
 refine Op1.callx rfl rfl cc rfl (fun q hq=>?_)
 refine hK _ _ ?_
 clear hK K
 obtain⟨gp,gr,gm,gb,rs⟩:=q
 rcases gp with _|⟨bp,cp⟩
 ·have h0:c.pc.length=0:=hq.pc
  omega
 refine vo ?_
 refine VCo.weak (Weak.perm (H':=(bq,.cells 69 4 [.gs none 0,.gs none 0,.gs none 0,.gs none 0])::(bp,.cells 3 (cp*1) (c.pc.map iD))::shp gr 29 1 (rgC rs) (shp gb 119 1 (c.bufs.map buf) (shp gm 3 1 (c.mem.map iD) (rgH rs [])))) (y'X fun a=>by simp only[OC.h,x'S,y'5,y'6,x'l,y'z,y'M,y'V];omega)) ?_
 revert bq
 intro b8
 refine VCo.nodup fun hn=>?_
 have n1: ¬b8=bp:=fun h=>by subst h;simp[Heap.blocks]at hn
 have e20:(x.op == 20)=false:=by simp[ho20]
 have e21:(x.op == 21)=false:=by simp[ho21]
 have e2:(x.op == 2)=false:=by simp[ho2]
 have e3:(x.op == 3)=false:=by simp[ho3]
 have e4:(x.op == 4)=false:=by simp[ho4]
 have e5:(x.op == 5)=false:=by simp[ho5]
 have e6:(x.op == 6)=false:=by simp[ho6]
 have e7:(x.op == 7)=false:=by simp[ho7]
 repeat' first|refine dr (id:=4) T 13 (by kernel_rfl) ?_|refine dr (id:=6) T 9 (by kernel_rfl) ?_|refine VCg.nil T ?_;simp only[x'r,WB,Nat.reduceAdd,T104];try(refine fun(bq:Nat) hbq=>?_;(try simp only[HB]at hbq))|apply VCg.step T rfl rfl;focus((try simp (disch:=omega) only[go_sem,Nat.reduceBEq,Nat.reduceAdd,Nat.reduceLeDiff,r1,r2,r4,hw,z'o,z'V,z'4]);(first|exact rfl|refine⟨?_,rfl⟩;try omega))|refine VCg.alloc T rfl rfl rfl rfl rfl ?_|refine mq2 (v'1 @OC.cs.eq_1 @e20 @e21 @e2 @e3 @e4 @e5 @e6 @e7) (z'X cE c1) ?_|refine mqn fun bq hbq=>?_|refine .wk ?_ ?_;focus(try omega)|refine ov ?_|fail
 have hq2:(OC.mk (some (bp,cp)) gr gm gb (rs)).ok (setP c i ((p+1:Nat):Int)):=OC.okP hq i ((p+1:Nat):Int)
 have hcs:(OC.mk (some (bp,cp)) gr gm gb (rs)).cs (setP c i ((p+1:Nat):Int))=[.gs (some (bp,cp)) c.pc.length,.gs gr c.regs.length,.gs gm c.mem.length,.gs gb c.bufs.length]:=by simp[OC.cs,setP,y'3,x'X,x'H,x'G]
 have hpm:((OC.mk (some (bp,cp)) gr gm gb (rs)).h (setP c i ((p+1:Nat):Int)) []).Perm ((bp,.cells 3 (cp*1) ((c.pc.map iD).set (i*1) (iD ((p+1:Nat):Int))))::shp gr 29 1 (rgC rs) (shp gb 119 1 (c.bufs.map buf) (shp gm 3 1 (c.mem.map iD) (rgH rs [])))):=
  y'X fun a=>by simp only[OC.h,setP,y'3,x'X,x'H,x'G,x'S,v'O,y'd,y'P,y'5,y'6,x'l,y'z,y'M,y'V];omega
 rw[show x'a u (setP c i ((p+1:Nat):Int)) m i x row b=(setP c i ((p+1:Nat):Int)) from by simp only[x'a,ho20,ho21,ho2,ho3,ho4,ho5,ho6,ho7,if_false]]
 refine x'8 T rfl (by(try simp (disch:=omega) only[hget_ne,hget_eq]);rfl) rfl rfl rfl (z'v _) ?_
 rw[←hcs]
 exact cfz hq2 (fun y hy=>z'd _ (z'd _ (z'd _ (hpm.mem_iff.1 hy)))) true
end Go.Proofs.YthlkpnjjkgmlkaaGreat
/- Maps, whatever their entries: keys that are numbers or texts. No condition. -/
namespace Go.Vc
set_option maxHeartbeats 16000000
set_option linter.unusedSimpArgs false
set_option linter.unusedVariables false
open Go
def ZgK:TypeDesc→Bool
 | .int _=>true
 | .string=>true
 |_=>false
theorem Zbc {P:Program} {t:TypeId} {kd:TypeDesc} (hu:P.underlying t=some kd) (hk:ZgK kd=true) (e:Bool) (n:Nat) (v:Value) (w:World):(Instr.checkKey e (n+1) t v).run P w= .ok () w:=by
 unfold Instr.checkKey
 rw[z'k (run_underlying hu w)]
 cases kd<;>first|rfl|cases hk
theorem Zbr {P:Program} {t:TypeId} {kd:TypeDesc} (hu:P.underlying t=some kd) {k:Value} {es:List MapEntry} {p:Option (Nat×Value)} (hf:Instr.findNow kd k es 0=some p) (w:World):(Instr.findKey t k es).run P w= .ok p w:=by
 unfold Instr.findKey
 rw[z'k (run_underlying hu w),hf]
 rfl
theorem Zka {P:Program} {t:TypeId} {z:Value} (hz:(P.info? t).bind (·.zero)=some z) (w:World):(zeroValue t).run P w= .ok z w:=by
 cases hi':P.info? t with
 |none=>rw[hi']at hz;cases hz
 |some i=>
  rw[hi']at hz
  unfold zeroValue
  rw[z'k (ZbC hi' w),show i.zero=some z from hz]
  rfl
def ZaU (z:Value):Option (Nat×Value)→Value×Bool
 |some q=>(q.2,true)
 |none=>(z,false)
def Zcu (ok:Bool) (r:Value×Bool):D:=match ok with|true=> .tup [Zgt r.1,.is (.bool r.2)]|false=>Zgt r.1
theorem Zhe {w:World} {L:Nat→Prop} {ok:Bool} {r:Value×Bool} (h: ∀cs,r.1= .agg cs→cs.toList.all Value.oneCell'=true):Rel w L (Zcu ok r) (if ok then .tuple #[r.1,.bool r.2]else r.1):=by
 cases ok
 ·exact Zmo _ _ _ h
 ·exact⟨_,rfl,_,_,rfl,Zmo _ _ _ h,_,_,rfl,rfl,rfl⟩
theorem Znn {P:Program} {o:Oper} {E:Operand→D} {H:Heap} {K:D→Heap→Prop} {t kt et:TypeId} {kd:TypeDesc} {m x:Operand} {ok:Bool} {b c:Nat} {es:Array MapEntry} {k z:Value} {p:Option (Nat×Value)}
  (ho:o.op= .lookup t m x ok) (hu:P.underlying t=some (.map kt et)) (hkt:P.underlying kt=some kd) (hkd:ZgK kd=true) (hz:(P.info? et).bind (·.zero)=some z) (hm:E m= .is (.map (some b))) (hx0:E x= .is k)
  (hg:w'v H b=some (.obj (.map es c))) (hf:Instr.findNow kd k es.toList 0=some p) (hone: ∀cs,(ZaU z p).1= .agg cs→cs.toList.all Value.oneCell'=true)
  (hk:K (Zcu ok (ZaU z p)) H):Op1 P o E H K:=by
 have hmem:=x'Q hg
 refine Op1.value (d:=Zcu ok (ZaU z p)) (fun w L0 ε hi hx=>?_) hk
 have r1:=hx m (by simp[ho,Op.operands])
 have r2:=hx x (by simp[ho,Op.operands])
 rw[hm]at r1;rw[hx0]at r2
 have r1':ε m= .map (some b):=r1
 have r2':ε x=k:=r2
 have hob:w.heap[b]?=some (.map es c):=hi.rel _ _ hmem
 refine⟨if ok then .tuple #[(ZaU z p).1,.bool (ZaU z p).2]else(ZaU z p).1,?_,Zhe hone⟩
 have:(Instr.lookup t (.map (some b)) k ok).run P w= .ok (if ok then .tuple #[(ZaU z p).1,.bool (ZaU z p).2]else(ZaU z p).1) w:=by
  unfold Instr.lookup
  rw[z'k (run_underlying hu w)]
  simp only
  rw[z'k (a:=Obj.map es c) (w':=w) (by simp[getObj,Sem.run,hob])]
  simp only
  rw[z'k (a:=es) (w':=w) rfl]
  rw[z'k (Zbc hkt hkd _ 9999 _ w),z'k (Zbr hkt hf w)]
  cases p with
  |none=>simp only;rw[z'k (Zka hz w)];rfl
  |some q=>rfl
 simp only[execOp,ho,r1',r2']
 rw[z'k this]
 rfl
theorem Ztk {P:Program} {o:Oper} {E:Operand→D} {H:Heap} {K:D→Heap→Prop} {t kt et:TypeId} {kd:TypeDesc} {m x:Operand} {ok:Bool} {k z:Value}
  (ho:o.op= .lookup t m x ok) (hu:P.underlying t=some (.map kt et)) (hkt:P.underlying kt=some kd) (hkd:ZgK kd=true) (hz:(P.info? et).bind (·.zero)=some z) (hm:E m= .is (.map none)) (hx0:E x= .is k)
  (hone: ∀cs,z= .agg cs→cs.toList.all Value.oneCell'=true) (hk:K (Zcu ok (z,false)) H):Op1 P o E H K:=by
 refine Op1.value (d:=Zcu ok (z,false)) (fun w L0 ε hi hx=>?_) hk
 have r1:=hx m (by simp[ho,Op.operands])
 have r2:=hx x (by simp[ho,Op.operands])
 rw[hm]at r1;rw[hx0]at r2
 have r1':ε m= .map none:=r1
 have r2':ε x=k:=r2
 refine⟨if ok then .tuple #[z,.bool false]else z,?_,Zhe hone⟩
 have hn:Instr.findNow kd k [] 0=some none:=rfl
 have:(Instr.lookup t (.map none) k ok).run P w= .ok (if ok then .tuple #[z,.bool false]else z) w:=by
  unfold Instr.lookup
  rw[z'k (run_underlying hu w)]
  simp only
  rw[z'k (a:= #[]) (w':=w) rfl]
  rw[z'k (Zbc hkt hkd _ 9999 _ w),z'k (Zbr hkt hn w)]
  simp only
  rw[z'k (Zka hz w)]
  rfl
 simp only[execOp,ho,r1',r2']
 rw[z'k this]
 rfl
def Zbk (es:Array MapEntry) (c:Nat) (k v:Value):Option (Nat×Value)→Obj
 |some q=> .map (es.modify q.1 fun e=>{e with key:=k,val:=v}) c
 |none=> .map (es.push {key:=k,val:=v,born:=c}) (c+1)
theorem ZpK {P:Program} {o:Oper} {E:Operand→D} {H:Heap} {K:D→Heap→Prop} {t kt et:TypeId} {kd:TypeDesc} {m x y:Operand} {b c:Nat} {es:Array MapEntry} {k v:Value} {p:Option (Nat×Value)}
  (ho:o.op= .mapUpdate t m x y∨o.op= .insert t m x y) (hu:P.underlying t=some (.map kt et)) (hkt:P.underlying kt=some kd) (hkd:ZgK kd=true) (hm:E m= .is (.map (some b))) (hx0:E x= .is k) (hy:ZeB (E y)=some v)
  (hg:w'v H b=some (.obj (.map es c))) (hf:Instr.findNow kd k es.toList 0=some p) (hs: ∀q,p=some q→Instr.sameBits 10000 (((es[q.1]?).map (·.key)).getD k) k=true) (hk:K (.is undef) (hset H b (.obj (Zbk es c k v p)))):Op1 P o E H K:=by
 have hmem:=x'Q hg
 have hbm:b∈H.blocks:=z'D.2 ⟨_,hmem,rfl⟩
 refine⟨fun d' H'=>d'= .is undef∧H'=hset H b (.obj (Zbk es c k v p)),?_,fun _ _ ⟨h1,h2⟩=>h1▸h2▸hk⟩
 intro w L0 ε hi hx
 have ops:m∈o.op.operands∧x∈o.op.operands∧y∈o.op.operands:=by rcases ho with ho|ho<;>simp[ho,Op.operands]
 have r1:=hx m ops.1
 have r2:=hx x ops.2.1
 have r3:=Zmt hy (hx y ops.2.2)
 rw[hm]at r1;rw[hx0]at r2
 have r1':ε m= .map (some b):=r1
 have r2':ε x=k:=r2
 have hob:w.heap[b]?=some (.map es c):=hi.rel _ _ hmem
 have hset': ∀ob,(setObj b ob).run P w= .ok () {w with heap:=w.heap.setIfInBounds b ob}:=fun ob=>by simp[setObj,Sem.run,hob]
 have hrun:(execOp ε o).run P w= .ok .skip {w with heap:=w.heap.setIfInBounds b (Zbk es c k v p)}:=by
  have:(Instr.mapUpdate t (.map (some b)) k v).run P w= .ok () {w with heap:=w.heap.setIfInBounds b (Zbk es c k v p)}:=by
   unfold Instr.mapUpdate
   rw[z'k (run_underlying hu w)]
   simp only
   rw[z'k (a:=Obj.map es c) (w':=w) (by simp[getObj,Sem.run,hob])]
   simp only
   rw[z'k (Zbc hkt hkd false 9999 _ w),z'k (Zbr hkt hf w)]
   cases p with
   |none=>exact hset' _
   |some q=>
    simp only
    have hst:(Instr.keyThatStays (((es[q.1]?).map (·.key)).getD k) k).run P w= .ok k w:=by
     unfold Instr.keyThatStays
     rw[if_pos (hs q rfl)]
     rfl
    rw[z'k hst]
    exact hset' _
  rcases ho with ho|ho
  ·simp only[execOp,ho,r1',r2',r3]
   rw[z'k this]
   rfl
  ·simp only[execOp,ho,r1',r2',r3]
   rw[z'k this]
   rfl
 rw[hrun]
 have hevo:=Ze5 (w:=w) hbm (Zbk es c k v p) (w'8 H b (.obj (Zbk es c k v p)))
 have hbl:=hi.lt hbm
 refine⟨_,_,⟨rfl,rfl⟩,rfl,?_,hevo⟩
 refine HInv.set hi hbm hevo.size (fun k hne _=>by simp[y'S (Ne.symm hne)]) ?_
 show(w.heap.setIfInBounds b _)[b]?=_
 simp[hbl]
def Zb2 (es:Array MapEntry) (c:Nat):Option (Nat×Value)→Obj
 |some q=> .map (es.eraseIdxIfInBounds q.1) c
 |none=> .map es c
theorem ZpH {P:Program} {o:Oper} {E:Operand→D} {H:Heap} {K:D→Heap→Prop} {t u kt et:TypeId} {kd:TypeDesc} {m x:Operand} {b c:Nat} {es:Array MapEntry} {k:Value} {p:Option (Nat×Value)}
  (ho:o.op= .call ⟨.builtin .delete, #[m,x], #[t,u]⟩) (hu:P.underlying t=some (.map kt et)) (hkt:P.underlying kt=some kd) (hkd:ZgK kd=true) (hm:E m= .is (.map (some b))) (hx0:E x= .is k)
  (hg:w'v H b=some (.obj (.map es c))) (hf:Instr.findNow kd k es.toList 0=some p) (hk:K (.tup []) (hset H b (.obj (Zb2 es c p)))):Op1 P o E H K:=by
 have hmem:=x'Q hg
 have hbm:b∈H.blocks:=z'D.2 ⟨_,hmem,rfl⟩
 refine⟨fun d' H'=>d'= .tup []∧H'=hset H b (.obj (Zb2 es c p)),?_,fun _ _ ⟨h1,h2⟩=>h1▸h2▸hk⟩
 intro w L0 ε hi hx
 have r1:=hx m (by simp[ho,Op.operands,Call.operands])
 have r2:=hx x (by simp[ho,Op.operands,Call.operands])
 rw[hm]at r1;rw[hx0]at r2
 have r1':ε m= .map (some b):=r1
 have r2':ε x=k:=r2
 have hob:w.heap[b]?=some (.map es c):=hi.rel _ _ hmem
 have hset': ∀ob,(setObj b ob).run P w= .ok () {w with heap:=w.heap.setIfInBounds b ob}:=fun ob=>by simp[setObj,Sem.run,hob]
 have this:(Builtin.delete_ #[t,u] o.type #[.map (some b),k]).run P w= .ok (.tuple #[]) {w with heap:=w.heap.setIfInBounds b (Zb2 es c p)}:=by
  unfold Builtin.delete_
  simp only[w'I,x'L,x'4]
  rw[z'k (run_underlying hu w)]
  simp only
  rw[z'k (a:=Obj.map es c) (w':=w) (by simp[getObj,Sem.run,hob])]
  simp only
  rw[z'k (Zbc hkt hkd _ 9999 _ w),z'k (Zbr hkt hf w)]
  cases p with
  |none=>exact z'k (hset' _)
  |some q=>exact z'k (hset' _)
 have hrun:(execOp ε o).run P w= .ok (.value (.tuple #[])) {w with heap:=w.heap.setIfInBounds b (Zb2 es c p)}:=by
  simp only[execOp,ho,resolve,invoke,builtin]
  simp[r1',r2']
  rw[this]
  rfl
 rw[hrun]
 have hevo:=Ze5 (w:=w) hbm (Zb2 es c p) (w'8 H b (.obj (Zb2 es c p)))
 have hbl:=hi.lt hbm
 refine⟨_,_,⟨rfl,rfl⟩,⟨_,rfl,rfl⟩,?_,hevo⟩
 refine HInv.set hi hbm hevo.size (fun k hne _=>by simp[y'S (Ne.symm hne)]) ?_
 show(w.heap.setIfInBounds b _)[b]?=_
 simp[hbl]
theorem Zuz {P:Program} {o:Oper} {E:Operand→D} {H:Heap} {K:D→Heap→Prop} {t kt et:TypeId} {m:Operand} {b c:Nat} {es:Array MapEntry}
  (ho:o.op= .call ⟨.builtin .len, #[m], #[t]⟩) (hu:P.underlying t=some (.map kt et)) (hm:E m= .is (.map (some b))) (hg:w'v H b=some (.obj (.map es c))) (hk:K (.is (.int .i64 es.size)) H):Op1 P o E H K:=by
 have hmem:=x'Q hg
 refine Op1.value (d:= .is (.int .i64 es.size)) (fun w L0 ε hi hx=>?_) hk
 have r1:=hx m (by simp[ho,Op.operands,Call.operands])
 rw[hm]at r1
 have r1':ε m= .map (some b):=r1
 have hob:w.heap[b]?=some (.map es c):=hi.rel _ _ hmem
 refine⟨.int .i64 es.size,?_,rfl⟩
 have this:(Builtin.len_ #[t] o.type #[.map (some b)]).run P w= .ok (.int .i64 es.size) w:=by
  unfold Builtin.len_
  simp only[w'I,x'L]
  rw[z'k (run_underlying hu w)]
  simp only
  rw[z'k (a:=Obj.map es c) (w':=w) (by simp[getObj,Sem.run,hob])]
  rfl
 simp only[execOp,ho,resolve,invoke,builtin]
 simp[r1']
 rw[this]
 rfl
end Go.Vc
