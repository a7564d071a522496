/- What a thread can; a thread at its instruction. No condition. -/
import Derived.Test.YthlkpnjjkgmlkaaGreatYg
import Derived.Test.YthlkpnjjkgmlkaaGreatYe
import Derived.Test.YthlkpnjjkgmlkaaGreatK2
namespace Go.Proofs.YthlkpnjjkgmlkaaGreat
set_option maxHeartbeats 16000000
set_option linter.unusedSimpArgs false
set_option linter.unusedVariables false
set_option maxRecDepth 20000
open Go Go.Proofs Go.Vc
attribute [local irreducible] x'v VCg VCw VCx
def y'u (u:Un) (row:List Int) (l:List Opc):Int:=Zcc l u.md row [] []
def enB (c:Cf) (m r:Int) (t:Int) (x:Ins) (b:List En) (e:Int):Bool:=
 if x.op=22 then false else if x.op=4 then(m == 1)||Zdd m r x.loc b else if x.op=8∨x.op=5∨x.op=6∨x.op=7 then(b.length:Int) == 0 else if x.op=9 then((w'p c t x.loc == e) != x.ne)else true
structure AtX (u:Un) (c:Cf) (i:Nat) (x:Ins):Prop where
 pc: ∃rw p,c.pc[i]?=some p∧u.code[i]?=some rw∧0≤p∧rw[p.toNat]?=some x
def Zi8 (u:Un) (c:Cf) (i:Nat):Option Ins:=(u.code[i]?).bind fun rw=>(c.pc[i]?).bind fun p=>if 0≤p then rw[p.toNat]? else none
theorem AtX.ins {u:Un} {c:Cf} {i:Nat} {x:Ins} (h:AtX u c i x):Zi8 u c i=some x:=by
 obtain⟨rw,p,h1,h2,h3,h4⟩:=h.pc
 simp[Zi8,h1,h2,h3,h4]
def enT (u:Un) (c:Cf) (m r t:Int):Bool:=match decide (0≤t),Zi8 u c t.toNat with
 |true,some x=>enB c m r t x (c.bufs.getD t.toNat []) (y'u u (c.regs.getD t.toNat []) x.e)
 |_,_=>false
structure Thr (u:Un) (c:Cf) (i:Nat) (x:Ins) (row:List Int) (b:List En):Prop where
 at_:AtX u c i x
 reg:c.regs[i]?=some row
 buf:c.bufs[i]?=some b
 e:x.e.length≤1000
 f:x.f.length≤1000
theorem Zo0 {u:Un} {c:Cf} {m r:Int} {i:Nat} {x:Ins} {row:List Int} {b:List En} (h:Thr u c i x row b):enT u c m r (i:Nat)=enB c m r (i:Nat) x b (y'u u row x.e):=by
 simp[enT,h.at_.ins,h.reg,h.buf,z'g]
theorem ZkX {u:Un} {c:Cf} {m r t:Int} (h:t<0∨t≥c.pc.length):enT u c m r t=false:=by
 unfold enT
 rcases h with h|h
 ·rw[decide_eq_false (by omega)]
 ·have:Zi8 u c t.toNat=none:=by
   unfold Zi8
   rw[z'M (show c.pc.length≤t.toNat by omega)]
   cases u.code[t.toNat]?<;>rfl
  rw[this]
  split<;>simp_all
abbrev pD (bd:Nat):D:= .is (.pointer (some ⟨bd,0,none⟩))
mutual
theorem Fz.sub {H H':Heap} (h: ∀y,y∈H→y∈H'): ∀{d' d:D},Fz H d' d→Fz H' d' d
 | .sl full esz rows,d,hd=>by
  rcases hd with h0|⟨h1,h2⟩
  ·exact .inl h0
  ·refine .inr ⟨h1,?_⟩
   rcases h2 with h2|h2|⟨b,o,n,cap,q1,q2,e,k,l,q3,q4⟩
   ·exact .inl h2
   ·exact .inr (.inl h2)
   ·exact .inr (.inr ⟨b,o,n,cap,q1,q2,e,k,l,h _ q3,FzR.sub h q4⟩)
 | .pt row,d,hd=>by
  rcases hd with h0|⟨b,o,e,k,l,q1,q2,q3⟩
  ·exact .inl h0
  ·exact .inr ⟨b,o,e,k,l,q1,h _ q2,FzC.sub h q3⟩
 | .agg l',d,hd=>by obtain⟨l,rfl,q⟩:=hd;exact⟨l,rfl,FzL.sub h q⟩
 | .tup l',d,hd=>by obtain⟨l,rfl,q⟩:=hd;exact⟨l,rfl,FzL.sub h q⟩
 | .ifc t x',d,hd=>by obtain⟨x,rfl,q⟩:=hd;exact⟨x,rfl,Fz.sub h q⟩
 | .is v,d,hd=>hd
 | .gs g n,d,hd=>hd
 | .os b o n cap,d,hd=>hd
 | .any,d,hd=>hd
theorem FzL.sub {H H':Heap} (h: ∀y,y∈H→y∈H'): ∀{l' l:List D},FzL H l' l→FzL H' l' l
 |[],l,q=>q
 |d'::ds',l,q=>by obtain⟨d,ds,rfl,q1,q2⟩:=q;exact⟨d,ds,rfl,Fz.sub h q1,FzL.sub h q2⟩
theorem FzC.sub {H H':Heap} (h: ∀y,y∈H→y∈H'): ∀{l' l:List D},FzC H l' l→FzC H' l' l
 |[],l,q=>trivial
 |d'::ds',l,q=>by obtain⟨d,ds,rfl,q1,q2⟩:=q;exact⟨d,ds,rfl,Fz.sub h q1,FzC.sub h q2⟩
theorem FzR.sub {H H':Heap} {esz:Nat} (h: ∀y,y∈H→y∈H'): ∀{rows:List (List D)} {l:List D},FzR H esz rows l→FzR H' esz rows l
 |[],l,q=>trivial
 |r::rs,l,q=>⟨q.1,FzC.sub h q.2.1,FzR.sub h q.2.2⟩
end
def setP (c:Cf) (i:Nat) (n:Int):Cf:={c with pc:=c.pc.set i n}
def y'3 (c:Cf) (k:Nat) (n:Int):Cf:={c with mem:=c.mem.set k n}
def x'X (c:Cf) (i:Nat) (b:List En):Cf:={c with bufs:=c.bufs.set i b}
def x'G (c:Cf) (i:Nat) (row:List Int):Cf:={c with regs:=c.regs.set i row}
theorem OC.okP {q:OC} {c:Cf} (h:q.ok c) (i:Nat) (n:Int):q.ok (setP c i n):=⟨by simpa[setP]using h.pc,h.gr,h.mem,h.bufs,h.rows,h.row⟩
theorem OC.okM {q:OC} {c:Cf} (h:q.ok c) (k:Nat) (n:Int):q.ok (y'3 c k n):=⟨h.pc,h.gr,by simpa[y'3]using h.mem,h.bufs,h.rows,h.row⟩
theorem OC.okB {q:OC} {c:Cf} (h:q.ok c) (i:Nat) (b:List En):q.ok (x'X c i b):=⟨h.pc,h.gr,h.mem,by simpa[x'X]using h.bufs,h.rows,h.row⟩
theorem Zcv {rs:OR} {l:List (List Int)} (h:rs.map (·.2)=l) {i:Nat} {row:List Int} (hr:l[i]?=some row): ∃pre post g,rs=pre++(g,row)::post∧pre.length=i∧l.set i=fun r'=>(pre++(g,r')::post).map (·.2):=by
 subst h
 have hi:=(z'b.1 hr).1
 rw[z'm]at hi
 rw[y'c]at hr
 obtain⟨p,hp⟩: ∃p,rs[i]?=some p:=⟨_,z'c hi⟩
 rw[hp]at hr
 have hp2:p.2=row:=by simpa using hr
 have e:rs=rs.take i++p::rs.drop (i+1):=by
  have h1:rs.drop i=p::rs.drop (i+1):=by rw[x'x hi];congr 1;exact z'O ((z'c hi).symm.trans hp)
  rw[←h1,v'7]
 have hl:(rs.take i).length=i:=by rw[z'L];omega
 refine⟨rs.take i,rs.drop (i+1),p.1,by rw[←hp2];exact e,hl,?_⟩
 funext r'
 conv=>lhs;rw[e]
 have hl2:(List.map (fun x:G×List Int=>x.2) (rs.take i)).length=i:=by rw[z'm,hl]
 rw[z'E,z'E,List.set_append,if_neg (by omega),hl2,Nat.sub_self]
 rfl
theorem x'S: ∀(pre:OR) (p:G×List Int) (post:OR) (X:Heap),rgH (pre++p::post) X=rgH pre (shp p.1 3 1 (p.2.map iD) (rgH post X))
 |[],p,post,X=>rfl
 |q::pre,p,post,X=>by rw[w'E,rgH,rgH,x'S pre]
def y'A (c:Cf) (x:Ins):Int:=c.mem.getD x.loc.toNat 0
structure Fit (u:Un) (c:Cf) (i:Nat) (x:Ins) (row:List Int) (b:List En):Prop where
 okc:OkC c
 pc:i<c.pc.length
 reg:c.regs[i]?=some row
 buf:c.bufs[i]?=some b
 e:x.e.length≤1000
 f:x.f.length≤1000
 r:(x.op=2∨x.op=3∨x.op=5∨x.op=6∨x.op=7)→0≤x.reg∧x.reg<row.length
 l:(x.op=4∨x.op=5∨x.op=6∨x.op=7)→0≤x.loc∧x.loc<c.mem.length
 m: ∀n,n∈c.mem→ -1000000≤n∧n≤1000000
 v: -1000000≤y'u u row x.e∧y'u u row x.e≤1000000
 md:u.md≠0
theorem ZsP {u:Un} {c:Cf} {i:Nat} {x:Ins} {row:List Int} {b:List En} (h:Fit u c i x row b): -1000000≤y'A c x∧y'A c x≤1000000:=by
 unfold y'A
 rw[z'g]
 cases hv:c.mem[x.loc.toNat]? with
 |none=>simp
 |some v=>exact h.m v (z'l hv)
def x'H (c:Cf) (i:Nat) (row:List Int) (x:Ins) (n:Int):Cf:=x'G c i (row.set x.reg.toNat n)
def x'a (u:Un) (c:Cf) (m:Int) (i:Nat) (x:Ins) (row:List Int) (b:List En):Cf:=
 if x.op=20 then setP c i x.to else if x.op=21 then(if y'u u row x.e=0 then setP c i x.to else c)else if x.op=2 then x'H c i row x (y'u u row x.e)else if x.op=3 then x'H c i row x (w'p c (i:Nat) x.loc)
 else if x.op=4 then(if m=1 then y'3 c x.loc.toNat (y'u u row x.e)else x'X c i (v'a m (x.loc,y'u u row x.e) b))
 else if x.op=5 then(if y'A c x=y'u u row x.e then y'3 (x'H c i row x (y'A c x)) x.loc.toNat (y'u u row x.f)else x'H c i row x (y'A c x))
 else if x.op=6 then y'3 (x'H c i row x (y'A c x)) x.loc.toNat ((y'A c x+y'u u row x.e).tmod u.md)
 else if x.op=7 then y'3 (x'H c i row x (y'A c x)) x.loc.toNat (y'u u row x.e)
 else c
section
variable (bd : Nat) (u : Un) (q : OC) (c : Cf) (hq : q.ok c) (m r : Int) (i : Nat) (x : Ins) (row : List Int) (b : List En) (h : Fit u c i x row b)
include hq h
end
theorem VCd.weak {P:Program} {n j:Nat} {ops:Array Oper} {s s':St} {Q:Exit→St→Prop} (h:Weak s s') (hv:VCd P n ops j s' Q):VCd P n ops j s Q:=fun x a w listed hn hs=>hv x a w listed hn (h x a w hs)
theorem VCd.nodup {P:Program} {n j:Nat} {ops:Array Oper} {s:St} {Q:Exit→St→Prop} (h:s.heap.blocks.Nodup→VCd P n ops j s Q):VCd P n ops j s Q:=fun x a w listed hn hs=>h hs.inv.nodup x a w listed hn hs
theorem VCo.nodup {P:Program} {n:Nat} {ops:Array Oper} {l:List Oper} {s:St} {Q:Exit→St→Prop} (h:s.heap.blocks.Nodup→VCo P n ops l s Q):VCo P n ops l s Q:=fun x a w hn hs=>h hs.inv.nodup x a w hn hs
def ZaE (c:Cf) (m t loc:Int):Cf:=match w'K c m t loc with
 |true=>y'3 (x'X c t.toNat (x'R m loc (c.bufs.getD t.toNat [])).1) (x'R m loc (c.bufs.getD t.toNat [])).2.1.1.toNat (x'R m loc (c.bufs.getD t.toNat [])).2.1.2
 |false=>c
def ZoM (c:Cf):Prop:= ∀b,b∈c.bufs→ ∀e,e∈b→0≤e.1∧e.1<c.mem.length
theorem Zni {m loc:Int} {b:List En} (h:(x'R m loc b).2.2=true):(x'R m loc b).2.1∈b:=by
 unfold x'R at h⊢
 cases hn:z'2 m loc b with
 |none=>rw[hn]at h;cases h
 |some k=>
  have hk:=ZdL hn
  simp only
  rw[z'c hk]
  exact List.getElem_mem hk
theorem cfz {q:OC} {c:Cf} (h:q.ok c) {H:Heap} (hm: ∀y,y∈q.h c []→y∈H) (v:Bool):Fz H (.tup [.agg (cfC c),bD v]) (.tup [.agg (q.cs c),bD v]):=
 ⟨_,rfl,z'u ⟨_,rfl,OC.fzL (X:=[]) h hm⟩ (FzL.refl _ _)⟩
theorem Zj2 (c:Cf) (hc:OkC c) (hin:ZoM c) (m t loc:Int):Pure Tryz.prog 138 [.agg (cfC c),iD m,iD t,iD loc] (.tup [.agg (cfC (ZaE c m t loc)),bD (w'K c m t loc)]):=by
 have cc:=w'U c hc
 have cf:=Zeq c hc.buf m t loc
 refine Fun.fz ?_
 refine Fun.of T [.cell 8 69,.tmp 9] Tryz.func138 rfl Tryz.ntmps138 Tryz.results138 rfl (by kernel_rfl) ?_
 repeat' first|refine vb (t:=69) rfl rfl rfl rfl ?_|refine vs T rfl fun K hK=>?_;(try simp (disch:=omega) only[go_sem,Nat.reduceBEq,Nat.reduceAdd,Nat.reduceLeDiff]);(first|refine hK _ _ ?_;clear hK K|intro bq hbq;(try simp only[HB]at hbq);refine hK _ _ ?_;clear hK K|skip)|refine st rfl ?_|refine nl ?_
 refine Op1.callx rfl rfl cc rfl (fun q hq=>?_)
 refine hK _ _ ?_
 clear hK K
 refine vo ?_
 refine VCo.weak (Weak.perm (H':=(bq,.cells 69 4 [.gs none 0,.gs none 0,.gs none 0,.gs none 0])::q.h c []) (y'X fun a=>by simp only[y'z,y'M,y'V];omega)) ?_
 revert bq
 intro b8
 cases hfl:w'K c m t loc with
 |false=>
  rw[hfl]at cf
  have hfc:ZaE c m t loc=c:=by simp[ZaE,hfl]
  rw[hfc]
  repeat' first|refine mq2 @OC.cs.eq_1 cf ?_|refine mqn fun bq hbq=>?_|refine ov ?_|fail
  exact x'8 T rfl (by(try simp (disch:=omega) only[hget_ne,hget_eq]);rfl) rfl rfl rfl (z'v _) (cfz hq (fun y hy=>z'd _ (z'd _ hy)) false)
 |true=>
  rw[hfl]at cf
  have ht0:0≤t:=by
   rcases Int.lt_or_le t 0 with h|h
   ·simp[w'K,y'b.2 h]at hfl
   ·exact h
  obtain⟨i,rfl⟩: ∃i:Nat,t=(i:Int):=⟨t.toNat,by omega⟩
  obtain⟨b,hb⟩: ∃b,c.bufs[i]?=some b:=by
   cases hb:c.bufs[i]? with
   |none=>simp[w'K,hb]at hfl
   |some b=>exact⟨b,rfl⟩
  have hil:=(z'b.1 hb).1
  have kb:=hc.buf b (z'l hb)
  have hp2:(x'R m loc b).2.2=true:=by simpa[w'K,hb]using hfl
  have hem:=hin b (z'l hb) _ (Zni hp2)
  have rb:(w'o c.bufs)[i]?=some [buf b]:=by rw[x'P,hb];rfl
  have cp:Pure Tryz.prog 210 [buf b,iD m,iD loc] (.tup [buf (x'R m loc b).1,.agg [iD (x'R m loc b).2.1.1,iD (x'R m loc b).2.1.2],bD (x'R m loc b).2.2]):=Znw b (by omega) m loc
  have hfc:ZaE c m (i:Nat) loc=y'3 (x'X c i (x'R m loc b).1) (x'R m loc b).2.1.1.toNat (x'R m loc b).2.1.2:=by simp[ZaE,hfl,z'g,hb]
  rw[hfc]
  have hq3:=OC.okM (OC.okB hq i (x'R m loc b).1) (x'R m loc b).2.1.1.toNat (x'R m loc b).2.1.2
  generalize (x'R m loc b)=pp at*
  obtain⟨b',⟨e1,e2⟩,is⟩:=pp
  simp only at hp2 hem cp hq3 hfc⊢
  obtain⟨gp,gr,gm,gb,rs⟩:=q
  rcases gb with _|⟨bb,capb⟩
  ·have h0:c.bufs.length=0:=hq.bufs
   omega
  rcases gm with _|⟨bm,capm⟩
  ·have h0:c.mem.length=0:=hq.mem
   omega
  refine VCo.weak (Weak.perm (H':=(b8,.cells 69 4 [.gs none 0,.gs none 0,.gs none 0,.gs none 0])::(bb,.cells 119 (capb*1) (c.bufs.map buf))::(bm,.cells 3 (capm*1) (c.mem.map iD))::shp gp 3 1 (c.pc.map iD) (shp gr 29 1 (rgC rs) (rgH rs []))) (y'X fun a=>by simp only[OC.h,y'5,y'6,x'l,y'z,y'M,y'V];omega)) ?_
  refine VCo.nodup fun hn=>?_
  have n1: ¬b8=bb:=fun h=>by subst h;simp[Heap.blocks]at hn
  have n2: ¬b8=bm:=fun h=>by subst h;simp[Heap.blocks]at hn
  have n3: ¬bb=bm:=fun h=>by subst h;simp[Heap.blocks]at hn
  repeat' first|refine mq2 (x'i @OC.cs.eq_1 @rb @y'm) (z'X cf cp) ?_|refine mqn fun bq hbq=>?_|refine .wk ?_ ?_;focus(try omega)|refine ov ?_|fail
  rename_i hb8 b10 hb10
  have hpm:((OC.mk gp gr (some (bm,capm)) (some (bb,capb)) rs).h (y'3 (x'X c i b') e1.toNat e2) []).Perm ((bb,.cells 119 (capb*1) ((c.bufs.map buf).set (i*1) (buf b')))::(bm,.cells 3 (capm*1) ((c.mem.map iD).set (e1.toNat*1) (iD e2)))::shp gp 3 1 (c.pc.map iD) (shp gr 29 1 (rgC rs) (rgH rs []))):=
   y'X fun a=>by simp only[OC.h,y'3,x'X,y'd,y'P,y'5,y'6,x'l,y'z,y'M,y'V];omega
  have hcs:(OC.mk gp gr (some (bm,capm)) (some (bb,capb)) rs).cs (y'3 (x'X c i b') e1.toNat e2)=[.gs gp c.pc.length,.gs gr c.regs.length,.gs (some (bm,capm)) c.mem.length,.gs (some (bb,capb)) c.bufs.length]:=by simp[OC.cs,y'3,x'X]
  refine x'8 T rfl (by(try simp (disch:=omega) only[hget_ne,hget_eq]);rfl) rfl rfl rfl (z'v _) ?_
  rw[←hcs]
  exact cfz hq3 (fun y hy=>z'd _ (z'd _ (z'd _ (hpm.mem_iff.1 hy)))) true
theorem x'W (u:Un) (c:Cf) (i:Nat) (row:List Int) (hr:c.regs[i]?=some row) (l:List Opc) (hl:l.length≤1000) (hrl:row.length≤1000):Pure Tryz.prog 207 [.agg (unC u),.agg (cfC c),iD (i:Nat),z'S l] (iD (y'u u row l)):=by
 have rr:(w'y c.regs)[i]?=some [y'r row]:=by rw[v'3,hr];rfl
 have hil:=(z'b.1 hr).1
 have cv:Pure Tryz.prog 35 [z'S l,iD u.md,y'r row,.gs none 0,.gs none 0] (.tup [iD (Zcc l u.md row [] []),bD (w'1 l u.md row [] [])]):=
  Fun.argsW (Zkb l u.md row [] [] ⟨hl,hrl,by simp,by simp,by simp⟩) (z'u (Fz.refl _ _) (z'u (Fz.refl _ _) (z'u (Fz.refl _ _) (z'u z'1 (z'u z'1 x'9)))))
 refine Fun.of T [.tmp 8] Tryz.func207 rfl Tryz.ntmps207 Tryz.results207 rfl (by kernel_rfl) ?_
 repeat' first|refine vb rfl rfl rfl rfl ?_|refine dr (id:=1) T 13 (by kernel_rfl) ?_|apply VCg.step T rfl rfl;focus((try simp (disch:=omega) only[go_sem,Nat.reduceBEq,rr,y'C]);(first|exact rfl|refine⟨?_,rfl⟩;try omega|refine Op1.callp rfl rfl (cv) rfl ?_;exact⟨rfl,rfl⟩))|refine mq0 ?_|exact z'p T (z'a _) ⟨rfl,rfl⟩|fail
 all_goals rfl
theorem Zhf (u:Un) (c:Cf) (m r t:Int) (h:t<0∨t≥c.pc.length):Pure Tryz.prog 205 [.agg (unC u),.agg (cfC c),iD m,iD r,iD t] (bD (enT u c m r t)):=by
 rw[ZkX h]
 refine Fun.of T [.tmp 10] Tryz.func205 rfl Tryz.ntmps205 Tryz.results205 rfl (by kernel_rfl) ?_
 by_cases h1:t<0
 ·have e1:decide (t<0)=true:=by simpa using h1
  repeat' first|refine vb (t:=32) rfl rfl rfl rfl ?_|refine vb (t:=69) rfl rfl rfl rfl ?_|refine mq1 @e1 ?_|exact z'p T (z'a _) ⟨rfl,rfl⟩|fail
 ·have e1:decide (t<0)=false:=by simpa using h1
  have e2:decide (t≥(c.pc.length:Int))=true:=by simp;omega
  repeat' first|refine vb (t:=32) rfl rfl rfl rfl ?_|refine vb (t:=69) rfl rfl rfl rfl ?_|refine mq1 (x'i @e1 @e2 @z'o) ?_|exact z'p T (z'a _) ⟨rfl,rfl⟩|fail
theorem x'5 (u:Un) (c:Cf) (hc:OkC c) (m r:Int) {i:Nat} {x:Ins} {row:List Int} {b:List En} (h:Thr u c i x row b):Pure Tryz.prog 205 [.agg (unC u),.agg (cfC c),iD m,iD r,iD (i:Nat)] (bD (enT u c m r (i:Nat))):=by
 rw[Zo0 h]
 obtain⟨rw,p,h1,h2,h3,h4⟩:=h.at_.pc
 obtain⟨q,rfl⟩: ∃q:Nat,p=(q:Int):=⟨p.toNat,by omega⟩
 rw[z'e]at h4
 have hr:=h.reg
 have hb:=h.buf
 have l1:=(z'b.1 h1).1
 have l2:=(z'b.1 h2).1
 have l4:=(z'b.1 h4).1
 have hbl:=(z'b.1 hb).1
 have r1:(iRs c.pc)[i]?=some [iD (q:Nat)]:=by rw[x'q,h1];rfl
 have r2:(w'A u.code)[i]?=some [.sl false 7 (y'I rw)]:=by rw[x'6,h2];rfl
 have r4:(y'I rw)[q]?=some [iD x.op,iD x.reg,iD x.loc,z'S x.e,z'S x.f,bD x.ne,iD x.to]:=by rw[w'e,h4];rfl
 have rb:(w'o c.bufs)[i]?=some [buf b]:=by rw[x'P,hb];rfl
 have kb:=hc.buf b (z'l hb)
 have kr:=hc.row row (z'l hr)
 have d1:decide ((i:Int)<0)=false:=by simp
 have d2:decide ((i:Int)≥(c.pc.length:Int))=false:=by simp;omega
 have c1:=x'W u c i row hr x.e h.e kr
 have c2:=Zj7 c hc.buf (i:Nat) x.loc
 have c3:=ZrE b (by omega) m r x.loc
 refine Fun.of T [.tmp 10] Tryz.func205 rfl Tryz.ntmps205 Tryz.results205 rfl (by kernel_rfl) ?_
 by_cases h22:x.op=22
 ·have e22:(x.op == 22)=true:=by simpa using h22
  have hE:enB c m r (i:Nat) x b (y'u u row x.e)=false:=by simp[enB,h22]
  rw[hE]
  repeat' first|refine vb (t:=32) rfl rfl rfl rfl ?_|refine vb (t:=69) rfl rfl rfl rfl ?_|refine dr (id:=3) T 13 (by kernel_rfl) ?_|refine VCg.nil T ?_;simp only[x'r,WB,Nat.reduceAdd,T104];try(refine fun(bq:Nat) hbq=>?_;(try simp only[HB]at hbq))|(apply VCg.step T rfl rfl);focus((try simp (disch:=omega) only[go_sem,Nat.reduceBEq,Nat.reduceAdd,Nat.reduceLeDiff,r1,r2,r4,z'o,z'V,z'4]);(first|exact rfl|refine⟨?_,rfl⟩;try omega))|refine VCg.alloc T rfl rfl rfl rfl rfl ?_|refine mq1 (x'f @d1 @d2 @z'o @e22) ?_|exact z'p T (z'a _) ⟨rfl,rfl⟩|fail
 have e22:(x.op == 22)=false:=by simpa using h22
 by_cases h4:x.op=4
 ·have e4:(x.op == 4)=true:=by simpa using h4
  have hE:enB c m r (i:Nat) x b (y'u u row x.e)=((m == 1)||Zdd m r x.loc b):=by simp[enB,h4]
  rw[hE]
  cases hm:(m == 1)with
  |true=>
   repeat' first|refine vb (t:=32) rfl rfl rfl rfl ?_|refine vb (t:=69) rfl rfl rfl rfl ?_|refine dr (id:=3) T 13 (by kernel_rfl) ?_|refine dr (id:=8) T 12 (by kernel_rfl) ?_|refine VCg.nil T ?_;simp only[x'r,WB,Nat.reduceAdd,T104];try(refine fun(bq:Nat) hbq=>?_;(try simp only[HB]at hbq))|(apply VCg.step T rfl rfl);focus((try simp (disch:=omega) only[go_sem,Nat.reduceBEq,Nat.reduceAdd,Nat.reduceLeDiff,r1,r2,r4,z'o,z'V,z'4,hm]);(first|exact rfl|refine⟨?_,rfl⟩;try omega))|refine VCg.alloc T rfl rfl rfl rfl rfl ?_|refine VCg.gstep T rfl rfl rfl rfl ?_;try simp only[GB]|refine mq1 (y'Z @d1 @d2 @z'o @e22 @e4) ?_|exact z'p T (z'a _) ⟨rfl,rfl⟩|fail
   all_goals rfl
  |false=>
   repeat' first|refine vb (t:=32) rfl rfl rfl rfl ?_|refine vb (t:=69) rfl rfl rfl rfl ?_|refine dr (id:=3) T 13 (by kernel_rfl) ?_|refine dr (id:=8) T 12 (by kernel_rfl) ?_|refine VCg.nil T ?_;simp only[x'r,WB,Nat.reduceAdd,T104];try(refine fun(bq:Nat) hbq=>?_;(try simp only[HB]at hbq))|(first|apply VCg.step T rfl rfl|apply exF);focus((try simp (disch:=omega) only[go_sem,Nat.reduceBEq,Nat.reduceAdd,Nat.reduceLeDiff,r1,r2,r4,z'o,z'V,z'4,hm,rb,y'm]);(first|exact rfl|refine⟨?_,rfl⟩;try omega))|refine VCg.alloc T rfl rfl rfl rfl rfl ?_|refine VCg.gstep T rfl rfl rfl rfl ?_;try simp only[GB]|refine mq2 (y'Z @d1 @d2 @z'o @e22 @e4) c3 ?_|exact z'p T (z'a _) ⟨rfl,rfl⟩|fail
   all_goals rfl
 have e4:(x.op == 4)=false:=by simpa using h4
 by_cases h8:x.op=8
 ·have e8:(x.op == 8)=true:=by simpa using h8
  have hE:enB c m r (i:Nat) x b (y'u u row x.e)=((b.length:Int) == 0):=by simp[enB,h8]
  rw[hE]
  repeat' first|refine vb (t:=32) rfl rfl rfl rfl ?_|refine vb (t:=69) rfl rfl rfl rfl ?_|refine dr (id:=3) T 13 (by kernel_rfl) ?_|refine VCg.nil T ?_;simp only[x'r,WB,Nat.reduceAdd,T104];try(refine fun(bq:Nat) hbq=>?_;(try simp only[HB]at hbq))|(apply VCg.step T rfl rfl);focus((try simp (disch:=omega) only[go_sem,Nat.reduceBEq,Nat.reduceAdd,Nat.reduceLeDiff,r1,r2,r4,z'o,z'V,z'4]);(first|exact rfl|refine⟨?_,rfl⟩;try omega))|refine VCg.alloc T rfl rfl rfl rfl rfl ?_|refine mq1 (v'1 @d1 @d2 @z'o @e22 @e4 @e8 @rb @y'm @z'R) ?_|refine .wk ?_ ?_;focus(try omega)|exact z'p T (z'a _) ⟨rfl,rfl⟩|fail
 have e8:(x.op == 8)=false:=by simpa using h8
 by_cases h5:x.op=5
 ·have e5:(x.op == 5)=true:=by simpa using h5
  have hE:enB c m r (i:Nat) x b (y'u u row x.e)=((b.length:Int) == 0):=by simp[enB,h5]
  rw[hE]
  repeat' first|refine vb (t:=32) rfl rfl rfl rfl ?_|refine vb (t:=69) rfl rfl rfl rfl ?_|refine dr (id:=3) T 13 (by kernel_rfl) ?_|refine VCg.nil T ?_;simp only[x'r,WB,Nat.reduceAdd,T104];try(refine fun(bq:Nat) hbq=>?_;(try simp only[HB]at hbq))|(apply VCg.step T rfl rfl);focus((try simp (disch:=omega) only[go_sem,Nat.reduceBEq,Nat.reduceAdd,Nat.reduceLeDiff,r1,r2,r4,z'o,z'V,z'4]);(first|exact rfl|refine⟨?_,rfl⟩;try omega))|refine VCg.alloc T rfl rfl rfl rfl rfl ?_|refine mq1 (Zaa @d1 @d2 @z'o @e22 @e4 @e8 @e5 @rb @y'm @z'R) ?_|refine .wk ?_ ?_;focus(try omega)|exact z'p T (z'a _) ⟨rfl,rfl⟩|fail
 have e5:(x.op == 5)=false:=by simpa using h5
 by_cases h6:x.op=6
 ·have e6:(x.op == 6)=true:=by simpa using h6
  have hE:enB c m r (i:Nat) x b (y'u u row x.e)=((b.length:Int) == 0):=by simp[enB,h6]
  rw[hE]
  repeat' first|refine vb (t:=32) rfl rfl rfl rfl ?_|refine vb (t:=69) rfl rfl rfl rfl ?_|refine dr (id:=3) T 13 (by kernel_rfl) ?_|refine VCg.nil T ?_;simp only[x'r,WB,Nat.reduceAdd,T104];try(refine fun(bq:Nat) hbq=>?_;(try simp only[HB]at hbq))|(apply VCg.step T rfl rfl);focus((try simp (disch:=omega) only[go_sem,Nat.reduceBEq,Nat.reduceAdd,Nat.reduceLeDiff,r1,r2,r4,z'o,z'V,z'4]);(first|exact rfl|refine⟨?_,rfl⟩;try omega))|refine VCg.alloc T rfl rfl rfl rfl rfl ?_|refine mq1 (Zdc @d1 @d2 @z'o @e22 @e4 @e8 @e5 @e6 @rb @y'm @z'R) ?_|refine .wk ?_ ?_;focus(try omega)|exact z'p T (z'a _) ⟨rfl,rfl⟩|fail
 have e6:(x.op == 6)=false:=by simpa using h6
 by_cases h7:x.op=7
 ·have e7:(x.op == 7)=true:=by simpa using h7
  have hE:enB c m r (i:Nat) x b (y'u u row x.e)=((b.length:Int) == 0):=by simp[enB,h7]
  rw[hE]
  repeat' first|refine vb (t:=32) rfl rfl rfl rfl ?_|refine vb (t:=69) rfl rfl rfl rfl ?_|refine dr (id:=3) T 13 (by kernel_rfl) ?_|refine VCg.nil T ?_;simp only[x'r,WB,Nat.reduceAdd,T104];try(refine fun(bq:Nat) hbq=>?_;(try simp only[HB]at hbq))|(apply VCg.step T rfl rfl);focus((try simp (disch:=omega) only[go_sem,Nat.reduceBEq,Nat.reduceAdd,Nat.reduceLeDiff,r1,r2,r4,z'o,z'V,z'4]);(first|exact rfl|refine⟨?_,rfl⟩;try omega))|refine VCg.alloc T rfl rfl rfl rfl rfl ?_|refine mq1 (Zfw @d1 @d2 @z'o @e22 @e4 @e8 @e5 @e6 @e7 @rb @y'm @z'R) ?_|refine .wk ?_ ?_;focus(try omega)|exact z'p T (z'a _) ⟨rfl,rfl⟩|fail
 have e7:(x.op == 7)=false:=by simpa using h7
 by_cases h9:x.op=9
 ·have e9:(x.op == 9)=true:=by simpa using h9
  have hE:enB c m r (i:Nat) x b (y'u u row x.e)=((w'p c (i:Nat) x.loc == y'u u row x.e) != x.ne):=by simp[enB,h9]
  rw[hE]
  repeat' first|refine vb (t:=32) rfl rfl rfl rfl ?_|refine vb (t:=69) rfl rfl rfl rfl ?_|refine dr (id:=3) T 13 (by kernel_rfl) ?_|refine dr (id:=15) T 14 (by kernel_rfl) ?_|refine VCg.nil T ?_;simp only[x'r,WB,Nat.reduceAdd,T104];try(refine fun(bq:Nat) hbq=>?_;(try simp only[HB]at hbq))|(apply VCg.step T rfl rfl);focus((try simp (disch:=omega) only[go_sem,Nat.reduceBEq,Nat.reduceAdd,Nat.reduceLeDiff,r1,r2,r4,z'o,z'V,z'4]);(first|exact rfl|refine⟨?_,rfl⟩;try omega|refine Op1.callp rfl rfl (c1) rfl ?_;exact⟨rfl,rfl⟩|refine Op1.callp rfl rfl (c2) rfl ?_;exact⟨rfl,rfl⟩))|refine VCg.alloc T rfl rfl rfl rfl rfl ?_|refine mq1 (Zaa @d1 @d2 @z'o @e22 @e4 @e8 @e5 @e6 @e7 @e9) ?_|exact z'p T (z'a _) ⟨rfl,rfl⟩|fail
 have e9:(x.op == 9)=false:=by simpa using h9
 have hE:enB c m r (i:Nat) x b (y'u u row x.e)=true:=by simp[enB,h22,h4,h8,h5,h6,h7,h9]
 rw[hE]
 repeat' first|refine vb (t:=32) rfl rfl rfl rfl ?_|refine vb (t:=69) rfl rfl rfl rfl ?_|refine dr (id:=3) T 13 (by kernel_rfl) ?_|refine VCg.nil T ?_;simp only[x'r,WB,Nat.reduceAdd,T104];try(refine fun(bq:Nat) hbq=>?_;(try simp only[HB]at hbq))|(apply VCg.step T rfl rfl);focus((try simp (disch:=omega) only[go_sem,Nat.reduceBEq,Nat.reduceAdd,Nat.reduceLeDiff,r1,r2,r4,z'o,z'V,z'4]);(first|exact rfl|refine⟨?_,rfl⟩;try omega))|refine VCg.alloc T rfl rfl rfl rfl rfl ?_|refine mq1 (Zaa @d1 @d2 @z'o @e22 @e4 @e8 @e5 @e6 @e7 @e9) ?_|exact z'p T (z'a _) ⟨rfl,rfl⟩|fail
end Go.Proofs.YthlkpnjjkgmlkaaGreat
