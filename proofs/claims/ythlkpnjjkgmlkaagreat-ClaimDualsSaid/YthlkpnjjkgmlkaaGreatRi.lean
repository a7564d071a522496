/- The program's steps of any thread. No condition. -/
import Derived.Test.YthlkpnjjkgmlkaaGreatLc
import Derived.Test.YthlkpnjjkgmlkaaGreatYp
import Derived.Test.YthlkpnjjkgmlkaaGreatXf
import Derived.Test.YthlkpnjjkgmlkaaGreatZf
import Derived.Test.YthlkpnjjkgmlkaaGreatZh
namespace Go.Proofs.YthlkpnjjkgmlkaaGreat
set_option maxHeartbeats 16000000
set_option linter.unusedSimpArgs false
set_option linter.unusedVariables false
set_option maxRecDepth 20000
open Go Go.Proofs Go.Vc
attribute [local irreducible] x'v VCg VCw VCx
def ZfK (u:Un) (c:Cf) (m r t:Int):Cf:=match enT u c m r t with
 |true=>match Zi8 u c t.toNat with
  |some x=>x'a u (setP c t.toNat (c.pc.getD t.toNat 0+1)) m t.toNat x (c.regs.getD t.toNat []) (c.bufs.getD t.toNat [])
  |none=>c
 |false=>c
theorem ZmG {u:Un} {c:Cf} {m r:Int} {i:Nat} {x:Ins} {row:List Int} {b:List En} {p:Nat} (h:Zbs u c i x row b p):ZfK u c m r (i:Nat)=ZtL u c m i x row b p (enT u c m r (i:Nat)):=by
 unfold ZfK ZtL
 cases enT u c m r (i:Nat)with
 |false=>rfl
 |true=>
  simp only[z'e,h.thr.at_.ins,z'g,h.pc,h.thr.reg,h.thr.buf,z'y]
  rfl
theorem ZiG {u:Un} {c:Cf} {m r t:Int} (h:enT u c m r t=false):ZfK u c m r t=c:=by unfold ZfK;rw[h]
def Ze0 (u:Un) (c:Cf) (m r:Int):Ag→Bool
 | .th t=>enT u c m r (t:Nat)
 | .fl t l=>w'K c m (t:Nat) l
def ZtK (u:Un) (c:Cf) (m r:Int):Ag→Cf
 | .th t=>ZfK u c m r (t:Nat)
 | .fl t l=>ZaE c m (t:Nat) l
section
variable {u : Un} {c : Cf} {m r : Int}
end
theorem Zqx {u:Un} (hi:u.init.length≤6) (m:Int) (t:Nat):(ZiO u m t).length≤6:=by
 unfold ZiO
 split
 ·simp
 split
 ·simpa using hi
 ·simp
theorem Zqd {u:Un} (hi:u.init.length≤6) (m:Int) (k:Nat):(ZeY u m k).length≤u.regs.length+6*k:=by
 induction k with
 |zero=>simp[ZeY,ZbE]
 |succ k ih=>rw[ZoR,z'j];have:=Zqx hi m k;omega
theorem Zdp (u:Un) (m:Int):(w'q u m).length≤28:=by
 unfold w'q
 split
 ·rename_i h
  have:=Zkd h.1
  have:=Zqd this.2.1 m u.regs.length
  omega
 ·simp
def Zjd (u:Un) (m a:Int):Option Ag:=match decide (0≤a)with|true=>(w'q u m)[a.toNat]?|false=>none
def enM (u:Un) (c:Cf) (m r a:Int):Bool:=match Zjd u m a with|some ag=>Ze0 u c m r ag|none=>false
def actM (u:Un) (c:Cf) (m r a:Int):Cf:=match Zjd u m a with|some ag=>ZtK u c m r ag|none=>c
section
variable {u : Un} {c : Cf} {m r : Int}
end
section
variable {u : Un} {c : Cf} {m r : Int}
def mvK (u:Un) (c:Cf) (m r:Int) (A:List Ag) (k:Nat):List Int:=((List.range k).filter fun i=>(A[i]?).any (Ze0 u c m r)).map fun(i:Nat)=>(i:Int)
def Zb4 (u:Un) (c:Cf) (m r:Int):List Int:=mvK u c m r (w'q u m) (w'q u m).length
theorem ZlH {A:List Ag} {k:Nat} {a:Ag} (h:A[k]?=some a):mvK u c m r A (k+1)=mvK u c m r A k++(match Ze0 u c m r a with|true=>[(k:Int)]|false=>[]):=by
 simp only[mvK,y'p,z'6,z'E]
 congr 1
 cases hc:Ze0 u c m r a<;>simp[h,hc]
theorem Znd {A:List Ag} {k:Nat}:(mvK u c m r A k).length≤k:=by
 simp only[mvK,z'm]
 exact z'7 (List.length_filter_le _ _) (by simp)
end
theorem ZdB {α:Type} (f:Nat→Nat→α) (L:Nat): ∀n,((List.range n).flatMap fun t=>(List.range L).map (f t)).length=n*L
 |0=>by simp
 |n+1=>by
  rw[y'p,List.flatMap_append,z'j,ZdB f L n]
  simp[Nat.succ_mul]
theorem Zm4 {α:Type} (f:Nat→Nat→α) {L:Nat} (hL:0<L): ∀n i,i<n*L→((List.range n).flatMap fun t=>(List.range L).map (f t))[i]?=some (f (i/L) (i % L))
 |0,i,h=>by omega
 |n+1,i,h=>by
  rw[y'p,List.flatMap_append]
  rcases z'i i (n*L)with h'|h'
  ·rw[y'o (by rw[ZdB];exact h'),Zm4 f hL n i h']
  ·rw[List.getElem?_append_right (by rw[ZdB];exact h'),ZdB]
   have h2:i-n*L<L:=by rw[Nat.succ_mul]at h;omega
   have h3:i=L*n+(i-n*L):=by rw[Nat.mul_comm];omega
   have h4:i/L=n:=by rw[h3,Nat.mul_add_div hL,Nat.div_eq_of_lt h2];rfl
   have h5:i % L=i-n*L:=by rw[h3,Nat.mul_add_mod,Nat.mod_eq_of_lt h2];omega
   simp[h2,h4,h5]
theorem ZtM {u:Un} (h:x'd u=true):w'q u 1=ZfF u.regs.length:=by
 rw[w'q,if_pos ⟨h,by omega,by omega⟩,ZeY]
 have:(List.range u.regs.length).flatMap (ZiO u 1)=[]:=by
  rw[List.flatMap_eq_nil_iff]
  intro t _
  simp[ZiO]
 rw[this,z'I]
theorem ZoO {u:Un} (h:x'd u=true):w'q u 2=ZfF u.regs.length++(List.range u.regs.length).map fun t=> .fl t (-1):=by
 rw[w'q,if_pos ⟨h,by omega,by omega⟩,ZeY]
 congr 1
 rw[List.map_eq_flatMap]
 rfl
theorem ZoP {u:Un} (h:x'd u=true):w'q u 3=ZfF u.regs.length++(List.range u.regs.length).flatMap fun t=>(List.range u.init.length).map fun l=> .fl t (l:Int):=by
 rw[w'q,if_pos ⟨h,by omega,by omega⟩,ZeY]
 rfl
theorem ZiH {u:Un} {m:Int} (h: ¬(x'd u=true∧1≤m∧m≤3)):w'q u m=[]:=if_neg h
theorem ZmM {u:Un} (h:x'd u=true):(w'q u 1).length=u.regs.length:=by rw[ZtM h,ZbE]
theorem ZmN {u:Un} (h:x'd u=true):(w'q u 2).length=2*u.regs.length:=by rw[ZoO h,z'j,ZbE,z'm,List.length_range];omega
theorem ZmO {u:Un} (h:x'd u=true):(w'q u 3).length=u.regs.length+u.regs.length*u.init.length:=by rw[ZoP h,z'j,ZbE,ZdB]
theorem ZuV {n i:Nat} (h:i<n) (l:List Ag):(ZfF n++l)[i]?=some (.th i):=by
 rw[y'o (by rw[ZbE];exact h)]
 simp[ZfF,h]
theorem Zmi {n i:Nat} (h:n≤i) (l:List Ag):(ZfF n++l)[i]?=l[i-n]?:=by rw[List.getElem?_append_right (by rw[ZbE];exact h),ZbE]
theorem Ziu (u:Un) (hu:OkU u) (m:Int):Pure Tryz.prog 143 [.agg (unC u),iD m] (iD ((w'q u m).length:Nat)):=by
 have cu:=ZfD u hu
 refine Fun.of T [.tmp 4] Tryz.func143 rfl Tryz.ntmps143 Tryz.results143 rfl (by kernel_rfl) ?_
 cases hU:x'd u with
 |false=>
  rw[hU]at cu
  rw[ZiH (by simp[hU])]
  repeat' first|refine vb rfl rfl rfl rfl ?_|refine mq3 cu ?_|exact z'p T (z'a _) ⟨rfl,rfl⟩|fail
  all_goals rfl
 |true=>
 rw[hU]at cu
 obtain⟨kn,ki,k0⟩:=Zkd hU
 by_cases m1:m=1
 ·have f1:(m == 1)=true:=by simpa using m1
  have hc:(w'q u m).length=u.regs.length:=by subst m1;exact ZmM hU
  rw[hc]
  repeat' first|refine vb rfl rfl rfl rfl ?_|refine mq2 (z'X @f1 @z'o) cu ?_|exact z'p T (z'a _) ⟨rfl,rfl⟩|fail
 have f1:(m == 1)=false:=by simpa using m1
 by_cases m2:m=2
 ·have f2:(m == 2)=true:=by simpa using m2
  have hw:IntKind.i64.wrap (2*(u.regs.length:Int))=((2*u.regs.length:Nat):Int):=by rw[w64 (by omega)];omega
  have hc:(w'q u m).length=2*u.regs.length:=by subst m2;exact ZmN hU
  rw[hc]
  repeat' first|refine vb rfl rfl rfl rfl ?_|refine mq2 (x'f @f1 @f2 @hw @z'o) cu ?_|exact z'p T (z'a _) ⟨rfl,rfl⟩|fail
 have f2:(m == 2)=false:=by simpa using m2
 by_cases m3:m=3
 ·have f3:(m == 3)=true:=by simpa using m3
  have hb:u.regs.length*u.init.length≤4*6:=Nat.mul_le_mul kn ki
  have hw1:IntKind.i64.wrap ((u.regs.length:Int)*(u.init.length:Int))=((u.regs.length*u.init.length:Nat):Int):=by
   rw[show(u.regs.length:Int)*(u.init.length:Int)=((u.regs.length*u.init.length:Nat):Int) by simp,w64 (by omega)]
  have hw2:IntKind.i64.wrap ((u.regs.length:Int)+((u.regs.length*u.init.length:Nat):Int))=((u.regs.length+u.regs.length*u.init.length:Nat):Int):=by rw[w64 (by omega)];omega
  have hc:(w'q u m).length=u.regs.length+u.regs.length*u.init.length:=by subst m3;exact ZmO hU
  rw[hc]
  repeat' first|refine vb rfl rfl rfl rfl ?_|refine mq2 (x'V @f1 @f2 @f3 @hw1 @hw2 @z'o) cu ?_|exact z'p T (z'a _) ⟨rfl,rfl⟩|fail
 have f3:(m == 3)=false:=by simpa using m3
 rw[ZiH (by omega)]
 repeat' first|refine vb rfl rfl rfl rfl ?_|refine mq2 (x'f @f1 @f2 @f3 @z'o) cu ?_|exact z'p T (z'a _) ⟨rfl,rfl⟩|fail
 all_goals rfl
theorem Zut (u:Un) (c:Cf) (hc:OkC c) (m r:Int) {i:Nat} {x:Ins} {row:List Int} {b:List En} {p:Nat} (h:Zbs u c i x row b p) (hE:enT u c m r (i:Nat)=true) (ho:x.op=2):
  Pure Tryz.prog 137 [.agg (unC u),.agg (cfC c),iD m,iD r,iD (i:Nat)] (.tup [.agg (cfC (x'a u (setP c i ((p+1:Nat):Int)) m i x row b)),bD true]):=by
 have h1:=h.pc
 obtain⟨rw,n0,h2,h5,h4,h6,h7⟩:=h.kind
 have hr:=h.thr.reg
 have hb:=h.thr.buf
 have hF:=h.fit
 have l1:=(z'b.1 h1).1
 have l2:=(z'b.1 h2).1
 have l4:=(z'b.1 h4).1
 have l5:=(z'b.1 hr).1
 have l6:=(z'b.1 hb).1
 have r1:(iRs c.pc)[i]?=some [iD (p:Nat)]:=by rw[x'q,h1];rfl
 have r2:(w'A u.code)[i]?=some [.sl false 7 (y'I rw)]:=by rw[x'6,h2];rfl
 have r4:(y'I rw)[p]?=some [iD x.op,iD x.reg,iD x.loc,z'S x.e,z'S x.f,bD x.ne,iD x.to]:=by rw[w'e,h4];rfl
 have rb:(w'o c.bufs)[i]?=some [buf b]:=by rw[x'P,hb];rfl
 have kb:=hc.buf b (z'l hb)
 have kr:=hc.row row (z'l hr)
 have kp:=h.pl
 have hw:IntKind.i64.wrap ((p:Int)+1)=((p+1:Nat):Int):=by rw[w64 (by omega)];omega
 have cc:=w'U c hc
 have cE:=x'5 u c hc m r h.thr
 rw[hE]at cE
 have c1:=x'W u c i row hr x.e h.thr.e kr
 have hx:0≤x.reg∧x.reg<(row.length:Int):=hF.r (by omega)
 refine Fun.fz ?_
 refine Fun.of T [.cell 10 69,.tmp 11] Tryz.func137 rfl Tryz.ntmps137 Tryz.results137 rfl (by kernel_rfl) ?_
 repeat' first|refine vb (t:=32) rfl rfl rfl rfl ?_|refine vb (t:=69) rfl rfl rfl rfl ?_|refine vs T rfl fun K hK=>?_;(try simp (disch:=omega) only[go_sem,Nat.reduceBEq,Nat.reduceAdd,Nat.reduceLeDiff]);(first|refine hK _ _ ?_;clear hK K|intro bq hbq;(try simp only[HB]at hbq);refine hK _ _ ?_;clear hK K|skip)|refine st rfl ?_|refine nl ?_
 refine Op1.callx rfl rfl cc rfl (fun q hq=>?_)
 refine hK _ _ ?_
 clear hK K
 obtain⟨gp,gr,gm,gb,rs⟩:=q
 rcases gp with _|⟨bp,cp⟩
 ·have h0:c.pc.length=0:=hq.pc
  omega
 rcases gr with _|⟨br,cr⟩
 ·have h0:c.regs.length=0:=hq.gr
  omega
 obtain⟨pre,post,gi,rfl,hpl,hset⟩:=Zcv hq.rows hr
 have hgi:gOk gi row.length:=hq.row (gi,row) (by simp)
 rcases gi with _|⟨bi,ci⟩
 ·have h0:row.length=0:=hgi
  omega
 have hrc:(rgC (pre++(some (bi,ci),row)::post))[i*1]?=some (.gs (some (bi,ci)) row.length):=by
  rw[y'd]
  simp[rgC, ←hpl]
 refine vo ?_
 refine VCo.weak (Weak.perm (H':=(bq,.cells 69 4 [.gs none 0,.gs none 0,.gs none 0,.gs none 0])::(bp,.cells 3 (cp*1) (c.pc.map iD))::(br,.cells 29 (cr*1) (rgC (pre++(some (bi,ci),row)::post)))::(bi,.cells 3 (ci*1) (row.map iD))::shp gb 119 1 (c.bufs.map buf) (shp gm 3 1 (c.mem.map iD) (rgH pre (rgH post [])))) (y'X fun a=>by simp only[OC.h,x'S,y'5,y'6,x'l,y'z,y'M,y'V];omega)) ?_
 revert bq
 intro b8
 refine VCo.nodup fun hn=>?_
 have n1: ¬b8=bp:=fun h=>by subst h;simp[Heap.blocks]at hn
 have n2: ¬b8=br:=fun h=>by subst h;simp[Heap.blocks]at hn
 have n3: ¬b8=bi:=fun h=>by subst h;simp[Heap.blocks]at hn
 have n4: ¬bp=br:=fun h=>by subst h;simp[Heap.blocks]at hn
 have n5: ¬bp=bi:=fun h=>by subst h;simp[Heap.blocks]at hn
 have n6: ¬br=bi:=fun h=>by subst h;simp[Heap.blocks]at hn
 have e20:(x.op == 20)=false:=by rw[ho];rfl
 have e21:(x.op == 21)=false:=by rw[ho];rfl
 have e2:(x.op == 2)=true:=by rw[ho];rfl
 repeat' first|refine dr (id:=4) T 13 (by kernel_rfl) ?_|refine dr (id:=6) T 9 (by kernel_rfl) ?_|refine dr (id:=14) T 8 (by kernel_rfl) ?_|refine VCg.nil T ?_;simp only[x'r,WB,Nat.reduceAdd,T104];try(refine fun(bq:Nat) hbq=>?_;(try simp only[HB]at hbq))|apply VCg.step T rfl rfl;focus((try simp (disch:=omega) only[go_sem,Nat.reduceBEq,Nat.reduceAdd,Nat.reduceLeDiff,r1,r2,r4,hw,z'o,z'V,z'4,hrc]);(first|exact rfl|refine⟨?_,rfl⟩;try omega))|refine VCg.alloc T rfl rfl rfl rfl rfl ?_|refine mq2 (x'f @OC.cs.eq_1 @e20 @e21 @e2) (z'X cE c1) ?_|refine mqn fun bq hbq=>?_|refine .wk ?_ ?_;focus(try omega)|refine ov ?_|fail
 have hq2:(OC.mk (some (bp,cp)) (some (br,cr)) gm gb (pre++(some (bi,ci),row.set x.reg.toNat (y'u u row x.e))::post)).ok (x'G (setP c i ((p+1:Nat):Int)) i (row.set x.reg.toNat (y'u u row x.e))):=OC.okR (OC.okP hq i ((p+1:Nat):Int)) hset _ _
 have hcs:(OC.mk (some (bp,cp)) (some (br,cr)) gm gb (pre++(some (bi,ci),row.set x.reg.toNat (y'u u row x.e))::post)).cs (x'G (setP c i ((p+1:Nat):Int)) i (row.set x.reg.toNat (y'u u row x.e)))=[.gs (some (bp,cp)) c.pc.length,.gs (some (br,cr)) c.regs.length,.gs gm c.mem.length,.gs gb c.bufs.length]:=by simp[OC.cs,setP,y'3,x'X,x'H,x'G]
 have hpm:((OC.mk (some (bp,cp)) (some (br,cr)) gm gb (pre++(some (bi,ci),row.set x.reg.toNat (y'u u row x.e))::post)).h (x'G (setP c i ((p+1:Nat):Int)) i (row.set x.reg.toNat (y'u u row x.e))) []).Perm ((bp,.cells 3 (cp*1) ((c.pc.map iD).set (i*1) (iD ((p+1:Nat):Int))))::(br,.cells 29 (cr*1) (rgC (pre++(some (bi,ci),row)::post)))::(bi,.cells 3 (ci*1) ((row.map iD).set (x.reg.toNat*1) (iD (y'u u row x.e))))::shp gb 119 1 (c.bufs.map buf) (shp gm 3 1 (c.mem.map iD) (rgH pre (rgH post [])))):=
  y'X fun a=>by simp only[OC.h,setP,y'3,x'X,x'H,x'G,x'S,v'O,y'd,y'P,y'5,y'6,x'l,y'z,y'M,y'V];omega
 rw[Zsg ho]
 refine x'8 T rfl (by(try simp (disch:=omega) only[hget_ne,hget_eq]);rfl) rfl rfl rfl (z'v _) ?_
 rw[←hcs]
 exact cfz hq2 (fun y hy=>z'd _ (z'd _ (z'd _ (hpm.mem_iff.1 hy)))) true
theorem Zuu (u:Un) (c:Cf) (hc:OkC c) (m r:Int) {i:Nat} {x:Ins} {row:List Int} {b:List En} {p:Nat} (h:Zbs u c i x row b p) (hE:enT u c m r (i:Nat)=true) (ho:x.op=3):
  Pure Tryz.prog 137 [.agg (unC u),.agg (cfC c),iD m,iD r,iD (i:Nat)] (.tup [.agg (cfC (x'a u (setP c i ((p+1:Nat):Int)) m i x row b)),bD true]):=by
 have h1:=h.pc
 obtain⟨rw,n0,h2,h5,h4,h6,h7⟩:=h.kind
 have hr:=h.thr.reg
 have hb:=h.thr.buf
 have hF:=h.fit
 have l1:=(z'b.1 h1).1
 have l2:=(z'b.1 h2).1
 have l4:=(z'b.1 h4).1
 have l5:=(z'b.1 hr).1
 have l6:=(z'b.1 hb).1
 have r1:(iRs c.pc)[i]?=some [iD (p:Nat)]:=by rw[x'q,h1];rfl
 have r2:(w'A u.code)[i]?=some [.sl false 7 (y'I rw)]:=by rw[x'6,h2];rfl
 have r4:(y'I rw)[p]?=some [iD x.op,iD x.reg,iD x.loc,z'S x.e,z'S x.f,bD x.ne,iD x.to]:=by rw[w'e,h4];rfl
 have rb:(w'o c.bufs)[i]?=some [buf b]:=by rw[x'P,hb];rfl
 have kb:=hc.buf b (z'l hb)
 have kr:=hc.row row (z'l hr)
 have kp:=h.pl
 have hw:IntKind.i64.wrap ((p:Int)+1)=((p+1:Nat):Int):=by rw[w64 (by omega)];omega
 have cc:=w'U c hc
 have cE:=x'5 u c hc m r h.thr
 rw[hE]at cE
 have c1:=x'W u c i row hr x.e h.thr.e kr
 have hx:0≤x.reg∧x.reg<(row.length:Int):=hF.r (by omega)
 have c2:=Zj7 c hc.buf (i:Nat) x.loc
 refine Fun.fz ?_
 refine Fun.of T [.cell 10 69,.tmp 11] Tryz.func137 rfl Tryz.ntmps137 Tryz.results137 rfl (by kernel_rfl) ?_
 repeat' first|refine vb (t:=32) rfl rfl rfl rfl ?_|refine vb (t:=69) rfl rfl rfl rfl ?_|refine vs T rfl fun K hK=>?_;(try simp (disch:=omega) only[go_sem,Nat.reduceBEq,Nat.reduceAdd,Nat.reduceLeDiff]);(first|refine hK _ _ ?_;clear hK K|intro bq hbq;(try simp only[HB]at hbq);refine hK _ _ ?_;clear hK K|skip)|refine st rfl ?_|refine nl ?_
 refine Op1.callx rfl rfl cc rfl (fun q hq=>?_)
 refine hK _ _ ?_
 clear hK K
 obtain⟨gp,gr,gm,gb,rs⟩:=q
 rcases gp with _|⟨bp,cp⟩
 ·have h0:c.pc.length=0:=hq.pc
  omega
 rcases gr with _|⟨br,cr⟩
 ·have h0:c.regs.length=0:=hq.gr
  omega
 obtain⟨pre,post,gi,rfl,hpl,hset⟩:=Zcv hq.rows hr
 have hgi:gOk gi row.length:=hq.row (gi,row) (by simp)
 rcases gi with _|⟨bi,ci⟩
 ·have h0:row.length=0:=hgi
  omega
 have hrc:(rgC (pre++(some (bi,ci),row)::post))[i*1]?=some (.gs (some (bi,ci)) row.length):=by
  rw[y'd]
  simp[rgC, ←hpl]
 refine vo ?_
 refine VCo.weak (Weak.perm (H':=(bq,.cells 69 4 [.gs none 0,.gs none 0,.gs none 0,.gs none 0])::(bp,.cells 3 (cp*1) (c.pc.map iD))::(br,.cells 29 (cr*1) (rgC (pre++(some (bi,ci),row)::post)))::(bi,.cells 3 (ci*1) (row.map iD))::shp gb 119 1 (c.bufs.map buf) (shp gm 3 1 (c.mem.map iD) (rgH pre (rgH post [])))) (y'X fun a=>by simp only[OC.h,x'S,y'5,y'6,x'l,y'z,y'M,y'V];omega)) ?_
 revert bq
 intro b8
 refine VCo.nodup fun hn=>?_
 have n1: ¬b8=bp:=fun h=>by subst h;simp[Heap.blocks]at hn
 have n2: ¬b8=br:=fun h=>by subst h;simp[Heap.blocks]at hn
 have n3: ¬b8=bi:=fun h=>by subst h;simp[Heap.blocks]at hn
 have n4: ¬bp=br:=fun h=>by subst h;simp[Heap.blocks]at hn
 have n5: ¬bp=bi:=fun h=>by subst h;simp[Heap.blocks]at hn
 have n6: ¬br=bi:=fun h=>by subst h;simp[Heap.blocks]at hn
 have e20:(x.op == 20)=false:=by rw[ho];rfl
 have e21:(x.op == 21)=false:=by rw[ho];rfl
 have e2:(x.op == 2)=false:=by rw[ho];rfl
 have e3:(x.op == 3)=true:=by rw[ho];rfl
 repeat' first|refine dr (id:=4) T 13 (by kernel_rfl) ?_|refine dr (id:=6) T 9 (by kernel_rfl) ?_|refine dr (id:=16) T 12 (by kernel_rfl) ?_|refine VCg.nil T ?_;simp only[x'r,WB,Nat.reduceAdd,T104];try(refine fun(bq:Nat) hbq=>?_;(try simp only[HB]at hbq))|apply VCg.step T rfl rfl;focus((try simp (disch:=omega) only[go_sem,Nat.reduceBEq,Nat.reduceAdd,Nat.reduceLeDiff,r1,r2,r4,hw,z'o,z'V,z'4,hrc]);(first|exact rfl|refine⟨?_,rfl⟩;try omega|refine Op1.callp rfl rfl (c2) rfl ?_;exact⟨rfl,rfl⟩))|refine VCg.alloc T rfl rfl rfl rfl rfl ?_|refine mq2 (y'Z @OC.cs.eq_1 @e20 @e21 @e2 @e3) (z'X cE c1) ?_|refine mqn fun bq hbq=>?_|refine .wk ?_ ?_;focus(try omega)|refine ov ?_|fail
 have hq2:(OC.mk (some (bp,cp)) (some (br,cr)) gm gb (pre++(some (bi,ci),row.set x.reg.toNat (w'p c (i:Nat) x.loc))::post)).ok (x'G (setP c i ((p+1:Nat):Int)) i (row.set x.reg.toNat (w'p c (i:Nat) x.loc))):=OC.okR (OC.okP hq i ((p+1:Nat):Int)) hset _ _
 have hcs:(OC.mk (some (bp,cp)) (some (br,cr)) gm gb (pre++(some (bi,ci),row.set x.reg.toNat (w'p c (i:Nat) x.loc))::post)).cs (x'G (setP c i ((p+1:Nat):Int)) i (row.set x.reg.toNat (w'p c (i:Nat) x.loc)))=[.gs (some (bp,cp)) c.pc.length,.gs (some (br,cr)) c.regs.length,.gs gm c.mem.length,.gs gb c.bufs.length]:=by simp[OC.cs,setP,y'3,x'X,x'H,x'G]
 have hpm:((OC.mk (some (bp,cp)) (some (br,cr)) gm gb (pre++(some (bi,ci),row.set x.reg.toNat (w'p c (i:Nat) x.loc))::post)).h (x'G (setP c i ((p+1:Nat):Int)) i (row.set x.reg.toNat (w'p c (i:Nat) x.loc))) []).Perm ((bp,.cells 3 (cp*1) ((c.pc.map iD).set (i*1) (iD ((p+1:Nat):Int))))::(br,.cells 29 (cr*1) (rgC (pre++(some (bi,ci),row)::post)))::(bi,.cells 3 (ci*1) ((row.map iD).set (x.reg.toNat*1) (iD (w'p c (i:Nat) x.loc))))::shp gb 119 1 (c.bufs.map buf) (shp gm 3 1 (c.mem.map iD) (rgH pre (rgH post [])))):=
  y'X fun a=>by simp only[OC.h,setP,y'3,x'X,x'H,x'G,x'S,v'O,y'd,y'P,y'5,y'6,x'l,y'z,y'M,y'V];omega
 rw[Zsh ho]
 refine x'8 T rfl (by(try simp (disch:=omega) only[hget_ne,hget_eq]);rfl) rfl rfl rfl (z'v _) ?_
 rw[←hcs]
 exact cfz hq2 (fun y hy=>z'd _ (z'd _ (z'd _ (hpm.mem_iff.1 hy)))) true
theorem Zuw (u:Un) (c:Cf) (hc:OkC c) (m r:Int) {i:Nat} {x:Ins} {row:List Int} {b:List En} {p:Nat} (h:Zbs u c i x row b p) (hE:enT u c m r (i:Nat)=true) (ho:x.op=7):
  Pure Tryz.prog 137 [.agg (unC u),.agg (cfC c),iD m,iD r,iD (i:Nat)] (.tup [.agg (cfC (x'a u (setP c i ((p+1:Nat):Int)) m i x row b)),bD true]):=by
 have h1:=h.pc
 obtain⟨rw,n0,h2,h5,h4,h6,h7⟩:=h.kind
 have hr:=h.thr.reg
 have hb:=h.thr.buf
 have hF:=h.fit
 have l1:=(z'b.1 h1).1
 have l2:=(z'b.1 h2).1
 have l4:=(z'b.1 h4).1
 have l5:=(z'b.1 hr).1
 have l6:=(z'b.1 hb).1
 have r1:(iRs c.pc)[i]?=some [iD (p:Nat)]:=by rw[x'q,h1];rfl
 have r2:(w'A u.code)[i]?=some [.sl false 7 (y'I rw)]:=by rw[x'6,h2];rfl
 have r4:(y'I rw)[p]?=some [iD x.op,iD x.reg,iD x.loc,z'S x.e,z'S x.f,bD x.ne,iD x.to]:=by rw[w'e,h4];rfl
 have rb:(w'o c.bufs)[i]?=some [buf b]:=by rw[x'P,hb];rfl
 have kb:=hc.buf b (z'l hb)
 have kr:=hc.row row (z'l hr)
 have kp:=h.pl
 have hw:IntKind.i64.wrap ((p:Int)+1)=((p+1:Nat):Int):=by rw[w64 (by omega)];omega
 have cc:=w'U c hc
 have cE:=x'5 u c hc m r h.thr
 rw[hE]at cE
 have c1:=x'W u c i row hr x.e h.thr.e kr
 have hx:0≤x.reg∧x.reg<(row.length:Int):=hF.r (by omega)
 have hl:0≤x.loc∧x.loc<(c.mem.length:Int):=hF.l (by omega)
 have rm:(iRs c.mem)[x.loc.toNat]?=some [iD (y'A c x)]:=by
  have hv:=z'c (show x.loc.toNat<c.mem.length by omega)
  rw[x'q,hv]
  simp[y'A,z'g,hv]
 refine Fun.fz ?_
 refine Fun.of T [.cell 10 69,.tmp 11] Tryz.func137 rfl Tryz.ntmps137 Tryz.results137 rfl (by kernel_rfl) ?_
 repeat' first|refine vb (t:=32) rfl rfl rfl rfl ?_|refine vb (t:=69) rfl rfl rfl rfl ?_|refine vs T rfl fun K hK=>?_;(try simp (disch:=omega) only[go_sem,Nat.reduceBEq,Nat.reduceAdd,Nat.reduceLeDiff]);(first|refine hK _ _ ?_;clear hK K|intro bq hbq;(try simp only[HB]at hbq);refine hK _ _ ?_;clear hK K|skip)|refine st rfl ?_|refine nl ?_
 refine Op1.callx rfl rfl cc rfl (fun q hq=>?_)
 refine hK _ _ ?_
 clear hK K
 obtain⟨gp,gr,gm,gb,rs⟩:=q
 rcases gp with _|⟨bp,cp⟩
 ·have h0:c.pc.length=0:=hq.pc
  omega
 rcases gm with _|⟨bm,cm⟩
 ·have h0:c.mem.length=0:=hq.mem
  omega
 rcases gr with _|⟨br,cr⟩
 ·have h0:c.regs.length=0:=hq.gr
  omega
 obtain⟨pre,post,gi,rfl,hpl,hset⟩:=Zcv hq.rows hr
 have hgi:gOk gi row.length:=hq.row (gi,row) (by simp)
 rcases gi with _|⟨bi,ci⟩
 ·have h0:row.length=0:=hgi
  omega
 have hrc:(rgC (pre++(some (bi,ci),row)::post))[i*1]?=some (.gs (some (bi,ci)) row.length):=by
  rw[y'd]
  simp[rgC, ←hpl]
 refine vo ?_
 refine VCo.weak (Weak.perm (H':=(bq,.cells 69 4 [.gs none 0,.gs none 0,.gs none 0,.gs none 0])::(bp,.cells 3 (cp*1) (c.pc.map iD))::(br,.cells 29 (cr*1) (rgC (pre++(some (bi,ci),row)::post)))::(bi,.cells 3 (ci*1) (row.map iD))::(bm,.cells 3 (cm*1) (c.mem.map iD))::shp gb 119 1 (c.bufs.map buf) (rgH pre (rgH post []))) (y'X fun a=>by simp only[OC.h,x'S,y'5,y'6,x'l,y'z,y'M,y'V];omega)) ?_
 revert bq
 intro b8
 refine VCo.nodup fun hn=>?_
 have n1: ¬b8=bp:=fun h=>by subst h;simp[Heap.blocks]at hn
 have n2: ¬b8=br:=fun h=>by subst h;simp[Heap.blocks]at hn
 have n3: ¬b8=bi:=fun h=>by subst h;simp[Heap.blocks]at hn
 have n4: ¬b8=bm:=fun h=>by subst h;simp[Heap.blocks]at hn
 have n5: ¬bp=br:=fun h=>by subst h;simp[Heap.blocks]at hn
 have n6: ¬bp=bi:=fun h=>by subst h;simp[Heap.blocks]at hn
 have n7: ¬bp=bm:=fun h=>by subst h;simp[Heap.blocks]at hn
 have n8: ¬br=bi:=fun h=>by subst h;simp[Heap.blocks]at hn
 have n9: ¬br=bm:=fun h=>by subst h;simp[Heap.blocks]at hn
 have n10: ¬bi=bm:=fun h=>by subst h;simp[Heap.blocks]at hn
 have e20:(x.op == 20)=false:=by rw[ho];rfl
 have e21:(x.op == 21)=false:=by rw[ho];rfl
 have e2:(x.op == 2)=false:=by rw[ho];rfl
 have e3:(x.op == 3)=false:=by rw[ho];rfl
 have e4:(x.op == 4)=false:=by rw[ho];rfl
 have e5:(x.op == 5)=false:=by rw[ho];rfl
 have e6:(x.op == 6)=false:=by rw[ho];rfl
 have e7:(x.op == 7)=true:=by rw[ho];rfl
 repeat' first|refine dr (id:=4) T 13 (by kernel_rfl) ?_|refine dr (id:=6) T 9 (by kernel_rfl) ?_|refine dr (id:=29) T 13 (by kernel_rfl) ?_|refine VCg.nil T ?_;simp only[x'r,WB,Nat.reduceAdd,T104];try(refine fun(bq:Nat) hbq=>?_;(try simp only[HB]at hbq))|apply VCg.step T rfl rfl;focus((try simp (disch:=omega) only[go_sem,Nat.reduceBEq,Nat.reduceAdd,Nat.reduceLeDiff,rm,r1,r2,r4,hw,z'o,z'V,z'4,hrc]);(first|exact rfl|refine⟨?_,rfl⟩;try omega))|refine VCg.alloc T rfl rfl rfl rfl rfl ?_|refine mq2 (v'1 @OC.cs.eq_1 @e20 @e21 @e2 @e3 @e4 @e5 @e6 @e7) (z'X cE c1) ?_|refine mqn fun bq hbq=>?_|refine .wk ?_ ?_;focus(try omega)|refine ov ?_|fail
 have hq2:(OC.mk (some (bp,cp)) (some (br,cr)) (some (bm,cm)) gb (pre++(some (bi,ci),row.set x.reg.toNat (y'A c x))::post)).ok (y'3 (x'G (setP c i ((p+1:Nat):Int)) i (row.set x.reg.toNat (y'A c x))) x.loc.toNat (y'u u row x.e)):=OC.okM (OC.okR (OC.okP hq i ((p+1:Nat):Int)) hset _ _) _ _
 have hcs:(OC.mk (some (bp,cp)) (some (br,cr)) (some (bm,cm)) gb (pre++(some (bi,ci),row.set x.reg.toNat (y'A c x))::post)).cs (y'3 (x'G (setP c i ((p+1:Nat):Int)) i (row.set x.reg.toNat (y'A c x))) x.loc.toNat (y'u u row x.e))=[.gs (some (bp,cp)) c.pc.length,.gs (some (br,cr)) c.regs.length,.gs (some (bm,cm)) c.mem.length,.gs gb c.bufs.length]:=by simp[OC.cs,setP,y'3,x'X,x'H,x'G]
 have hpm:((OC.mk (some (bp,cp)) (some (br,cr)) (some (bm,cm)) gb (pre++(some (bi,ci),row.set x.reg.toNat (y'A c x))::post)).h (y'3 (x'G (setP c i ((p+1:Nat):Int)) i (row.set x.reg.toNat (y'A c x))) x.loc.toNat (y'u u row x.e)) []).Perm ((bp,.cells 3 (cp*1) ((c.pc.map iD).set (i*1) (iD ((p+1:Nat):Int))))::(br,.cells 29 (cr*1) (rgC (pre++(some (bi,ci),row)::post)))::(bi,.cells 3 (ci*1) ((row.map iD).set (x.reg.toNat*1) (iD (y'A c x))))::(bm,.cells 3 (cm*1) ((c.mem.map iD).set (x.loc.toNat*1) (iD (y'u u row x.e))))::shp gb 119 1 (c.bufs.map buf) (rgH pre (rgH post []))):=
  y'X fun a=>by simp only[OC.h,setP,y'3,x'X,x'H,x'G,x'S,v'O,y'd,y'P,y'5,y'6,x'l,y'z,y'M,y'V];omega
 rw[Zsj ho]
 refine x'8 T rfl (by(try simp (disch:=omega) only[hget_ne,hget_eq]);rfl) rfl rfl rfl (z'v _) ?_
 rw[←hcs]
 exact cfz hq2 (fun y hy=>z'd _ (z'd _ (z'd _ (hpm.mem_iff.1 hy)))) true
theorem Zrr (u:Un) (c:Cf) (hc:OkC c) (m r:Int) {i:Nat} {x:Ins} {row:List Int} {b:List En} {p:Nat} (h:Zbs u c i x row b p) (hE:enT u c m r (i:Nat)=true):
  Pure Tryz.prog 137 [.agg (unC u),.agg (cfC c),iD m,iD r,iD (i:Nat)] (.tup [.agg (cfC (x'a u (setP c i ((p+1:Nat):Int)) m i x row b)),bD true]):=by
 by_cases h20:x.op=20
 ·exact Ztd u c hc m r h hE h20
 by_cases h21:x.op=21
 ·by_cases h0:y'u u row x.e=0
  ·exact Zrq u c hc m r h hE h21 h0
  ·exact Zrp u c hc m r h hE h21 h0
 by_cases h2:x.op=2
 ·exact Zut u c hc m r h hE h2
 by_cases h3:x.op=3
 ·exact Zuu u c hc m r h hE h3
 by_cases h4:x.op=4
 ·by_cases hm:m=1
  ·exact Ztf u c hc m r h hE h4 hm
  ·exact Zte u c hc m r h hE h4 hm
 by_cases h5:x.op=5
 ·by_cases h0:y'A c x=y'u u row x.e
  ·exact Zth u c hc m r h hE h5 h0
  ·exact Ztg u c hc m r h hE h5 h0
 by_cases h6:x.op=6
 ·exact Zuv u c hc m r h hE h6
 by_cases h7:x.op=7
 ·exact Zuw u c hc m r h hE h7
 exact Zti u c hc m r h hE h20 h21 h2 h3 h4 h5 h6 h7
theorem ZjU (u:Un) (c:Cf) (hc:OkC c) (m r t:Int) (hE:Pure Tryz.prog 205 [.agg (unC u),.agg (cfC c),iD m,iD r,iD t] (bD false)):
  Pure Tryz.prog 137 [.agg (unC u),.agg (cfC c),iD m,iD r,iD t] (.tup [.agg (cfC c),bD false]):=by
 have cc:=ZjZ c hc
 refine Fun.of T [.cell 10 69,.tmp 11] Tryz.func137 rfl Tryz.ntmps137 Tryz.results137 rfl (by kernel_rfl) ?_
 repeat' first|refine vb (t:=32) rfl rfl rfl rfl ?_|refine mq3 (z'X cc hE) ?_|refine mqn fun bq hbq=>?_|exact x'8 T rfl (by(simp (disch:=omega) only[hget_ne,hget_eq])<;>rfl) rfl rfl rfl (z'a _) ⟨rfl,rfl⟩|fail
theorem Ztj {u:Un} {c:Cf} {m r:Int} (h:Rt u c m r) (t:Int):Pure Tryz.prog 137 [.agg (unC u),.agg (cfC c),iD m,iD r,iD t] (.tup [.agg (cfC (ZfK u c m r t)),bD (enT u c m r t)]):=by
 by_cases ht:t<0∨t≥c.pc.length
 ·have hn:=ZkX (u:=u) (m:=m) (r:=r) ht
  rw[ZiG hn,hn]
  refine ZjU u c h.okC m r t ?_
  have:=Zhf u c m r t ht
  rwa [hn]at this
 obtain⟨i,rfl⟩: ∃i:Nat,t=(i:Int):=⟨t.toNat,by omega⟩
 obtain⟨x,row,b,p,ha⟩:=h.at (i:=i) (by omega)
 rw[ZmG ha]
 cases hE:enT u c m r (i:Nat)with
 |true=>exact Zrr u c h.okC m r ha hE
 |false=>
  refine ZjU u c h.okC m r _ ?_
  have:=x'5 u c h.okC m r ha.thr
  rwa [hE]at this
theorem Zux {u:Un} {c:Cf} {m r:Int} (h:Rt u c m r) (t:Int):Pure Tryz.prog 205 [.agg (unC u),.agg (cfC c),iD m,iD r,iD t] (bD (enT u c m r t)):=by
 by_cases ht:t<0∨t≥c.pc.length
 ·exact Zhf u c m r t ht
 obtain⟨i,rfl⟩: ∃i:Nat,t=(i:Int):=⟨t.toNat,by omega⟩
 obtain⟨x,row,b,p,ha⟩:=h.at (i:=i) (by omega)
 exact x'5 u c h.okC m r ha.thr
end Go.Proofs.YthlkpnjjkgmlkaaGreat
