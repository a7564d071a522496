/- A configuration al bytes, in plain Lean. No condition. -/
import Derived.Test.YtomcmfbpmkklmaaGreatXe
import Derived.Test.YtomcmfbpmkklmaaGreatBc
import Derived.Test.YtomcmfbpmkklmaaGreatDf
import Derived.Test.YtomcmfbpmkklmaaGreatWd
import Derived.Test.YtomcmfbpmkklmaaGreatWb
namespace Go.Proofs.YtomcmfbpmkklmaaGreat
set_option linter.unusedSimpArgs false
set_option linter.unusedVariables false
open Go Go.Proofs Go.Vc
def byI (n:Int):Int:=IntKind.u8.wrap n
theorem Za5 {n:Int} (h:0≤n∧n<256):byI n=n:=by
 unfold byI
 have e:IntKind.u8.wrap n=n % 256:=rfl
 rw[e];omega
def ZbX (b:List En):List Int:=b.flatMap fun e=>[byI e.1,byI e.2]
def thB (p:Int) (r:List Int) (b:List En):List Int:=byI (p.tdiv 256)::byI (p.tmod 256)::(r.map byI++byI (b.length:Nat)::ZbX b)
def ZaV:List Int→List (List Int)→List (List En)→List Int
 |p::ps,r::rs,b::bs=>thB p r b++ZaV ps rs bs
 |_,_,_=>[]
def Zb7 (c:Cf):List Int:=ZaV c.pc c.regs c.bufs++c.mem.map byI
def w'X (n:Int):Prop:=0≤n∧n<256
theorem Ze7 {l:List Int} (h: ∀n,n∈l→w'X n):l.map byI=l:=by
 have:l.map byI=l.map id:=List.map_congr_left fun n hn=>Za5 (h n hn)
 rw[this,List.map_id]
theorem ZiY: ∀{a b:List En} {x y:List Int},a.length=b.length→(∀e,e∈a→w'X e.1∧w'X e.2)→(∀e,e∈b→w'X e.1∧w'X e.2)→ZbX a++x=ZbX b++y→a=b∧x=y
 |[],[],x,y,_,_,_,h=>⟨rfl,h⟩
 |[],_::_,_,_,h,_,_,_=>by cases h
 |_::_,[],_,_,h,_,_,_=>by cases h
 |e::a,f::b,x,y,hl,ha,hb,h=>by
  have e1:=ha e (by simp)
  have f1:=hb f (by simp)
  simp only[ZbX,List.flatMap_cons,z'T,z'N,w'y]at h
  rw[Za5 e1.1,Za5 e1.2,Za5 f1.1,Za5 f1.2]at h
  obtain⟨h1,h2,h3⟩:=h
  obtain⟨q1,q2⟩:=ZiY (a:=a) (b:=b) (by simpa using hl) (fun e he=>ha e (by simp[he])) (fun e he=>hb e (by simp[he])) h3
  exact⟨by rw[q1,Prod.ext h1 h2],q2⟩
def ZiT (p:Int) (r:List Int) (b:List En):Prop:=(0≤p∧p<65536)∧(∀n,n∈r→w'X n)∧b.length<256∧ ∀e,e∈b→w'X e.1∧w'X e.2
theorem ZnV {p q:Int} {r s:List Int} {a b:List En} {x y:List Int} (h1:ZiT p r a) (h2:ZiT q s b) (hl:r.length=s.length) (h:thB p r a++x=thB q s b++y):p=q∧r=s∧a=b∧x=y:=by
 obtain⟨p1,p2,p3,p4⟩:=h1
 obtain⟨q1,q2,q3,q4⟩:=h2
 simp only[thB,z'T,z'7,w'y]at h
 obtain⟨g1,g2,g3⟩:=h
 have t1:p.tdiv 256=p/256:=v's p1.1
 have t2:q.tdiv 256=q/256:=v's q1.1
 have t3:p.tmod 256=p % 256:=v'r p1.1
 have t4:q.tmod 256=q % 256:=v'r q1.1
 rw[t1,t2,Za5 (by omega),Za5 (by omega)]at g1
 rw[t3,t4,Za5 (by omega),Za5 (by omega)]at g2
 rw[Ze7 p2,Ze7 q2]at g3
 obtain⟨g4,g5⟩:=List.append_inj g3 hl
 simp only[w'y]at g5
 rw[Za5 (by omega),Za5 (by omega)]at g5
 obtain⟨g6,g7⟩:=ZiY (by omega) p4 q4 g5.2
 exact⟨by omega,g4,g6,g7⟩
structure CfB (rg:List Int) (lm:Nat) (c:Cf):Prop where
 pl:c.pc.length=rg.length
 rl:c.regs.length=rg.length
 bl:c.bufs.length=rg.length
 ml:c.mem.length=lm
 ms: ∀n,n∈c.mem→w'X n
 th: ∀(t:Nat) p r b,c.pc[t]?=some p→c.regs[t]?=some r→c.bufs[t]?=some b→ZiT p r b∧rg[t]?=some (r.length:Int)
theorem ZiR: ∀{rg ps qs:List Int} {rs ss:List (List Int)} {al bs:List (List En)} {x y:List Int},ps.length=rg.length→qs.length=rg.length→rs.length=rg.length→ss.length=rg.length→al.length=rg.length→bs.length=rg.length→
  (∀(t:Nat) p r b,ps[t]?=some p→rs[t]?=some r→al[t]?=some b→ZiT p r b∧rg[t]?=some (r.length:Int))→
  (∀(t:Nat) p r b,qs[t]?=some p→ss[t]?=some r→bs[t]?=some b→ZiT p r b∧rg[t]?=some (r.length:Int))→
  ZaV ps rs al++x=ZaV qs ss bs++y→ps=qs∧rs=ss∧al=bs∧x=y
 |[],ps,qs,rs,ss,al,bs,x,y,h1,h2,h3,h4,h5,h6,_,_,h=>by
  obtain rfl:=z'P h1
  obtain rfl:=z'P h2
  obtain rfl:=z'P h3
  obtain rfl:=z'P h4
  obtain rfl:=z'P h5
  obtain rfl:=z'P h6
  exact⟨rfl,rfl,rfl,h⟩
 |g::rg,p::ps,q::qs,r::rs,s::ss,a::al,b::bs,x,y,h1,h2,h3,h4,h5,h6,k1,k2,h=>by
  obtain⟨a1,a2⟩:=k1 0 p r a rfl rfl rfl
  obtain⟨b1,b2⟩:=k2 0 q s b rfl rfl rfl
  have hl:r.length=s.length:=by
   have:=a2.symm.trans b2
   simp only[y'i]at this
   omega
  simp only[ZaV,z'7]at h
  obtain⟨e1,e2,e3,e4⟩:=ZnV a1 b1 hl h
  obtain⟨f1,f2,f3,f4⟩:=ZiR (rg:=rg) (by simpa using h1) (by simpa using h2) (by simpa using h3) (by simpa using h4) (by simpa using h5) (by simpa using h6) (fun t p r b x y z=>k1 (t+1) p r b x y z) (fun t p r b x y z=>k2 (t+1) p r b x y z) e4
  exact⟨by rw[e1,f1],by rw[e2,f2],by rw[e3,f3],f4⟩
theorem Zm6 {rg:List Int} {lm:Nat} {c d:Cf} (hc:CfB rg lm c) (hd:CfB rg lm d) (h:Zb7 c=Zb7 d):c=d:=by
 unfold Zb7 at h
 obtain⟨h1,h2,h3,h4⟩:=ZiR hc.pl hd.pl hc.rl hd.rl hc.bl hd.bl hc.th hd.th h
 rw[Ze7 hc.ms,Ze7 hd.ms]at h4
 cases c;cases d
 simp_all
theorem ZgA: ∀(l:List Int) (b:ByteArray),(l.foldl (fun s n=>s.push (UInt8.ofNat n.toNat)) b).data.toList=b.data.toList++l.map fun n=>UInt8.ofNat n.toNat
 |[],b=>by simp
 |x::l,b=>by
  rw[List.foldl_cons,ZgA l]
  simp[ByteArray.push]
theorem Zdl (l:List Int):(Zam l).data.toList=l.map fun n=>UInt8.ofNat n.toNat:=by
 unfold Zam
 rw[ZgA]
 exact z'N _
theorem Zi8 (l:List Int):(Zam l).size=l.length:=by
 have h:=congrArg List.length (Zdl l)
 rw[z'3,z'p]at h
 exact h
theorem ZbC (n:Int):w'X (byI n):=by
 unfold byI w'X
 have e:IntKind.u8.wrap n=n % 256:=rfl
 rw[e];omega
theorem Zhs: ∀{a b:List Int},(∀n,n∈a→w'X n)→(∀n,n∈b→w'X n)→(a.map fun n=>UInt8.ofNat n.toNat)=(b.map fun n=>UInt8.ofNat n.toNat)→a=b
 |[],[],_,_,_=>rfl
 |[],_::_,_,_,h=>by cases h
 |_::_,[],_,_,h=>by cases h
 |x::a,y::b,ha,hb,h=>by
  simp only[z'z,w'y]at h
  have hx:=ha x (z'C ..)
  have hy:=hb y (z'C ..)
  unfold w'X at hx hy
  have e:=congrArg UInt8.toNat h.1
  simp only[UInt8.toNat_ofNat']at e
  have:x=y:=by omega
  rw[this,Zhs (fun n hn=>ha n (z'e _ hn)) (fun n hn=>hb n (z'e _ hn)) h.2]
theorem Zkl {a b:List Int} (ha: ∀n,n∈a→w'X n) (hb: ∀n,n∈b→w'X n) (h:Zam a=Zam b):a=b:=
 Zhs ha hb (by rw[←Zdl, ←Zdl,h])
theorem Zkz (b:List En): ∀n,n∈ZbX b→w'X n:=by
 intro n hn
 unfold ZbX at hn
 obtain⟨e,_,he⟩:=Zaj.1 hn
 simp only[z'L,x'H,or_false]at he
 rcases he with rfl|rfl<;>exact ZbC _
theorem Zly (p:Int) (r:List Int) (b:List En): ∀n,n∈thB p r b→w'X n:=by
 intro n hn
 simp only[thB,z'L,y'x,z'y]at hn
 rcases hn with rfl|rfl|⟨x,_,rfl⟩|rfl|h
 ·exact ZbC _
 ·exact ZbC _
 ·exact ZbC _
 ·exact ZbC _
 ·exact Zkz b n h
theorem Zgv: ∀(ps:List Int) (rs:List (List Int)) (bs:List (List En)), ∀n,n∈ZaV ps rs bs→w'X n
 |p::ps,r::rs,b::bs,n,h=>by
  simp only[ZaV,y'x]at h
  rcases h with h|h
  ·exact Zly _ _ _ n h
  ·exact Zgv ps rs bs n h
 |[],_,_,n,h=>by simp[ZaV]at h
 |_::_,[],_,n,h=>by simp[ZaV]at h
 |_::_,_::_,[],n,h=>by simp[ZaV]at h
theorem Zf4 (c:Cf): ∀n,n∈Zb7 c→w'X n:=by
 intro n h
 unfold Zb7 at h
 rcases y'x.1 h with h|h
 ·exact Zgv _ _ _ n h
 ·obtain⟨x,_,rfl⟩:=z'y.1 h
  exact ZbC _
def w's (c:Cf):ByteArray:=Zam (Zb7 c)
theorem Zmu {rg:List Int} {lm:Nat} {c d:Cf} (hc:CfB rg lm c) (hd:CfB rg lm d) (h:w's c=w's d):c=d:=
 Zm6 hc hd (Zkl (Zf4 c) (Zf4 d) h)
theorem ZiD {α β:Type} [DecidableEq α] [DecidableEq β] {f:α→β}: ∀{l:List α} {c:α},(∀d,d∈l→f d=f c→d=c)→w'u (l.map f) (f c)=w'u l c
 |[],c,_=>rfl
 |d::l,c,h=>by
  have ih:=ZiD (f:=f) (l:=l) (c:=c) fun d hd=>h d (z'e _ hd)
  unfold w'u at ih⊢
  rw[z'z,List.idxOf?_cons,List.idxOf?_cons,ih]
  by_cases e:d=c
  ·subst e;simp
  ·have: ¬f d=f c:=fun q=>e (h d (z'C ..) q)
   simp[e,this]
theorem Zny {rg:List Int} {lm:Nat} {l:List Cf} {c:Cf} (hl: ∀d,d∈l→CfB rg lm d) (hc:CfB rg lm c):w'u (l.map w's) (w's c)=w'u l c:=
 ZiD fun d hd h=>Zmu (hl d hd) hc h
attribute [local irreducible] y'0 VCg VCw VCx
theorem Op1.ofS {P:Program} {o:Oper} {E:Operand→D} {H:Heap} {d:D} {K:D→Heap→Prop} (h:OpS P o E H (fun d' H'=>d'=d∧H'=H)) (hk:K d H):Op1 P o E H K:=
 ⟨_,h,fun d' H' ⟨h1,h2⟩=>h1▸h2▸hk⟩
def ZhY (k:IntKind) (x y:Int):Int:=k.wrap ((BitVec.ofInt k.bits x^^^BitVec.ofInt k.bits y).toNat:Nat)
theorem Znj {P:Program} {o:Oper} {E:Operand→D} {H:Heap} {t u:TypeId} {x y:Operand} {k:IntKind} {a b:Int} {K:D→Heap→Prop} (ho:o.op= .binOp .xor t x y u) (ha:E x= .is (.int k a)) (hb:E y= .is (.int k b))
  (hk:K (.is (.int k (ZhY k a b))) H):Op1 P o E H K:=by
 refine Op1.ofS (OpS.value fun w L0 ε hi hx=>?_) hk
 have h1:=hx x (by simp[ho,Op.operands])
 have h2:=hx y (by simp[ho,Op.operands])
 rw[ha]at h1;rw[hb]at h2
 have h1':ε x= .int k a:=h1
 have h2':ε y= .int k b:=h2
 have hg:(eqGuard .xor t x y (.int k a) (.int k b)).run P w= .ok () w:=w'r trivial
 refine⟨.int k (ZhY k a b),?_,rfl⟩
 simp only[execOp,ho,h1',h2']
 rw[z'n (a:=Value.int k (ZhY k a b)) (w':=w) (by rw[z'n hg];simp only[binOp,ne_eq,not_true_eq_false,if_false,Op.intBits];rfl)]
 rfl
theorem Znf {P:Program} {o:Oper} {E:Operand→D} {H:Heap} {t u:TypeId} {x y:Operand} {k:IntKind} {a b:Int} {K:D→Heap→Prop} (ho:o.op= .binOp .and t x y u) (ha:E x= .is (.int k a)) (hb:E y= .is (.int k b))
  (hk:K (.is (.int k (ZeX k a b))) H):Op1 P o E H K:=Op1.ofS (ZpD ho ha hb) hk
def Zkc (k:IntKind) (x y:Int):Int:=x.fdiv (2^min y.toNat k.bits)
theorem Zp8 {P:Program} {o:Oper} {E:Operand→D} {H:Heap} {t u:TypeId} {x y:Operand} {k k':IntKind} {a b:Int} {K:D→Heap→Prop} (ho:o.op= .binOp .shr t x y u) (ha:E x= .is (.int k a)) (hb:E y= .is (.int k' b)) (h0:0≤b)
  (hk:K (.is (.int k (Zkc k a b))) H):Op1 P o E H K:=by
 refine Op1.ofS (OpS.value fun w L0 ε hi hx=>?_) hk
 have h1:=hx x (by simp[ho,Op.operands])
 have h2:=hx y (by simp[ho,Op.operands])
 rw[ha]at h1;rw[hb]at h2
 have h1':ε x= .int k a:=h1
 have h2':ε y= .int k' b:=h2
 have hg:(eqGuard .shr t x y (.int k a) (.int k' b)).run P w= .ok () w:=w'r trivial
 refine⟨.int k (Zkc k a b),?_,rfl⟩
 simp only[execOp,ho,h1',h2']
 rw[z'n (a:=Value.int k (Zkc k a b)) (w':=w) (by rw[z'n hg];simp only[binOp,Op.shift];rw[if_neg (by omega)];rfl)]
 rfl
theorem Zoh {P:Program} {o:Oper} {E:Operand→D} {H:Heap} {t u:TypeId} {x:Operand} {K:D→Heap→Prop} (ho:o.op= .binOp .neq t x (.const (.pointer none)) u) (hx0:(∃l,E x= .pt l)∨ ∃a,E x= .is (.pointer (some a)))
  (hy0:E (.const (.pointer none))= .is (.pointer none)) (hu:P.underlying t=some (.pointer (P.pointee t))) (hk:K (.is (.bool true)) H):Op1 P o E H K:=by
 refine Op1.ofS (OpS.value fun w L0 ε hi hx=>?_) hk
 have h1:=hx x (by simp[ho,Op.operands])
 have h2:=hx (.const (.pointer none)) (by simp[ho,Op.operands])
 obtain⟨a,ha⟩: ∃a,ε x= .pointer (some a):=by
  rcases hx0 with⟨l,e⟩|⟨a,e⟩
  ·rw[e,Rel]at h1;obtain⟨b,o,h,_⟩:=h1;exact⟨_,h⟩
  ·rw[e]at h1;exact⟨a,h1⟩
 rw[hy0]at h2
 have h2':ε (.const (.pointer none))= .pointer none:=h2
 have hg:(eqGuard .neq t x (.const (.pointer none)) (.pointer (some a)) (.pointer none)).run P w= .ok () w:=w'r trivial
 refine⟨.bool true,?_,rfl⟩
 simp only[execOp,ho,ha,h2']
 rw[z'n (a:=Value.bool true) (w':=w) (by rw[z'n hg];exact run_neq_pointer_nil w t (some a) hu)]
 rfl
theorem ZlT {P:Program} (T:Tab P) {o:Oper} {E:Operand→D} {H:Heap} {K:D→Heap→Prop} {t:TypeId} {x i:Operand} {n:Nat} {ik:IntKind} {m:Int} {l:List D} {d:D} (ho:o.op= .index t x i)
  (hk0:kdT (T.get t)= .array n 1 false) (hx0:E x= .agg l) (hi0:E i= .is (.int ik m)) (hm:0≤m∧m<n) (hd:l[m.toNat]?=some d) (hk:K d H):Op1 P o E H K:=by
 obtain⟨e,hu,hkn,hsz⟩:=Zeb T hk0
 have hag:ZcK P e=false:=by
  unfold kdT at hk0
  cases hkn':(T.get t).known with
  |false=>rw[hkn']at hk0;cases hk0
  |true=>
   rw[hkn']at hk0
   obtain⟨d',i',z',h1,h2,h3,h4,_⟩:=T.facts hkn'
   simp only[h4]at hk0
   rw[hu]at h1
   cases h1
   simp only[w'V,hkn,Kd.array.injEq]at hk0
   exact hk0.2.2
 obtain⟨d1,inf,z,h1,h2,h3,h4,h5,_⟩:=x'Q hkn
 rw[hsz]at h4
 refine Op1.ofS (d:=d) (OpS.value fun w L0 ε hi hx=>?_) hk
 have r1:=hx x (by simp[ho,Op.operands])
 have r2:=hx i (by simp[ho,Op.operands])
 rw[hx0,Rel]at r1;rw[hi0]at r2
 obtain⟨hone,cs,hv,hr⟩:=r1
 have r2':ε i= .int ik m:=r2
 obtain⟨v,q1,q2⟩:=RelL.get _ _ hr m.toNat d hd
 refine⟨v,?_,q2⟩
 have q1':cs[m.toNat]?=some v:=by simpa using q1
 simp only[execOp,ho,hv,r2',Instr.index]
 refine(z'n (a:=v) (w':=w) ?_).trans rfl
 refine(z'n (a:=(ik,m)) (w':=w) rfl).trans ?_
 simp only
 rw[z'n (run_underlying hu w)]
 simp only
 rw[if_pos hm,z'n (Zay h2 w),h4,z'w]
 unfold part
 rw[z'n (Zck h1 w),show Zcz d1=false by rw[h5];exact hag]
 simp only[v'S,if_false,q1']
 rfl
theorem Zli {P:Program} (T:Tab P) {o:Oper} {E:Operand→D} {H:Heap} {t:TypeId} {x:Operand} {n esz:Nat} {ea:Bool} {b:Nat} (ho:o.op= .slice t x none none none)
  (hk0:kdT (T.get t)= .array n esz ea) (hx0:E x= .is (.pointer (some ⟨b,0,none⟩))):OpS P o E H (fun d' H'=>d'= .gs (some (b,n)) n∧H'=H):=by
 obtain⟨e,hu,hkn,hsz⟩:=Zeb T hk0
 obtain⟨d1,inf,z,h1,h2,h3,h4,_⟩:=x'Q hkn
 refine OpS.value fun w L0 ε hi hx=>?_
 have r1:=hx x (by simp[ho,Op.operands])
 rw[hx0]at r1
 have r1':ε x= .pointer (some ⟨b,0,none⟩):=r1
 refine⟨.slice (some ⟨b,0,none⟩) n n,?_,rfl,z'v _⟩
 simp only[execOp,ho,r1',Instr.sliceAt,v'k]
 refine(z'n (a:= .slice (some ⟨b,0,none⟩) n n) (w':=w) ?_).trans rfl
 rw[z'n (run_underlying hu w)]
 simp only
 refine(z'n (a:=(⟨b,0,none⟩:Addr)) (w':=w) rfl).trans ?_
 refine(z'n (a:=(0,n,n)) (w':=w) (by simp[Instr.sliceBounds,go_sem])).trans ?_
 simp only
 rw[z'n (Zay h2 w),v'c,Nat.sub_zero,Zbd]
 split<;>rfl
theorem Op1.lendO {P:Program} {o:Oper} {E E':Operand→D} {H:Heap} {d0:D} {K:D→Heap→Prop} (h:OpS P o E' [] (fun d H'=>d=d0∧H'=[])) (ha: ∀x,x∈o.op.operands→Fz H (E' x) (E x)) (hp:Zgh d0=true) (hk:K d0 H):Op1 P o E H K:=by
 refine⟨fun d H'=>d=d0∧H'=H,?_,fun d H' ⟨h1,h2⟩=>h1▸h2▸hk⟩
 intro w L0 ε hi hx
 have hlet:ZeW w L0 H H (live [] L0):=⟨hi,fun b c hm=>⟨hm,fun hl=>by
  rcases hl with hl|hl
  ·exact hi.apart b (z'y.2 ⟨_,hm,rfl⟩) hl
  ·cases hl⟩,fun b _ hl=>by
  rcases hl with hl|hl
  ·exact .inl hl
  ·cases hl⟩
 have hi0:HInv w L0 []:=⟨fun b c hm=>(by cases hm),v'5,fun b hb=>(by cases hb),hi.old⟩
 have hg:=h w L0 ε hi0 (fun x hm=>Rel.fz hlet _ _ _ (ha x hm) (hx x hm))
 have key: ∀v w',(∃d Hp,(d=d0∧Hp=[])∧Rel w' (live Hp L0) d v∧HInv w' L0 Hp∧Evo w [] w' Hp)→ ∃d H',(d=d0∧H'=H)∧Rel w' (live H' L0) d v∧HInv w' L0 H'∧Evo w H w' H':=by
  rintro v w' ⟨d,Hp,⟨rfl,rfl⟩,hrel,hi',he⟩
  have hblk: ∀b,b<w.heap.size→w'.heap[b]?=w.heap[b]?:=fun b hb=>he.block b hb (by simp[Heap.blocks])
  have hlt: ∀b,b∈H.blocks→b<w.heap.size:=fun b hb=>hi.lt hb
  have hkeep:Keeps w (live H L0) w' (live H L0):=fun b hb hn=>⟨hblk b hb,hn⟩
  exact⟨d,H,⟨rfl,rfl⟩,Rel.plain hp hrel,⟨fun b c hm=>(hi.rel b c hm).mono hkeep (hblk b (hlt b (z'y.2 ⟨_,hm,rfl⟩))),hi.nodup,hi.apart,hi'.old⟩,
   ⟨he.os,he.tape,he.output,he.size,fun b hb _=>hblk b hb,fun b hb=> .inl hb⟩⟩
 exact hg.mono key
theorem ZoG {P:Program} (T:Tab P) {o:Oper} {E:Operand→D} {H:Heap} {K:D→Heap→Prop} {t u:TypeId} {x:Operand} {d' d0:D} (ho:o.op= .convert t u x) (hz:Fz H d' (E x))
  (hs:opC T o (fun _=>d') [] (fun d H'=>d=d0∧H'=[])) (hp:Zgh d0=true) (hk:K d0 H):Op1 P o E H K:=
 Op1.lendO (let ⟨_,h1,h2⟩:=v'H T hs;h1.mono h2) (fun y hy=>by
  have:y=x:=by simpa[ho,Op.operands]using hy
  subst this;exact hz) hp hk
theorem ZeU {k n:Nat} (h:n<2^k):(BitVec.ofInt k (n:Int)).toNat=n:=by
 rw[BitVec.ofInt_natCast,BitVec.toNat_ofNat,Nat.mod_eq_of_lt h]
theorem ZhX {n:Nat} (h:n<18446744073709551616):IntKind.u64.wrap (n:Int)=n:=by
 have e:IntKind.u64.wrap (n:Int)=(n:Int) % 18446744073709551616:=rfl
 rw[e];omega
def Zgj (h:Int):Nat:=(BitVec.ofInt 64 h).toNat
theorem ZpT (h:Int) {k m:Nat} (hm:m=2^k) (hk:k≤60):ZeX .u64 h ((m:Int)-1)=((Zgj h % m:Nat):Int):=by
 have hp:0<2^k:=Nat.two_pow_pos k
 have hlt:2^k≤2^60:=x'T (by decide) hk
 have e:((m:Int)-1)=((m-1:Nat):Int):=by omega
 unfold ZeX
 rw[e]
 have e2:(BitVec.ofInt IntKind.u64.bits h&&&BitVec.ofInt IntKind.u64.bits ((m-1:Nat):Int)).toNat=Zgj h % m:=by
  rw[BitVec.toNat_and]
  have:(BitVec.ofInt IntKind.u64.bits ((m-1:Nat):Int)).toNat=m-1:=ZeU (by
   have:(2:Nat)^IntKind.u64.bits=18446744073709551616:=by decide
   omega)
  rw[this,hm,Nat.and_two_pow_sub_one_eq_mod]
  rfl
 rw[e2]
 have:=w'W (Zgj h) (show 0<m by omega)
 exact ZhX (by omega)
theorem ZpI {a k m:Nat} (hm:m=2^k) (hk:k≤60) (ha:a≤m):ZeX .i64 (a:Int) ((m:Int)-1)=((a % m:Nat):Int):=by
 have hp:0<2^k:=Nat.two_pow_pos k
 have hlt:2^k≤2^60:=x'T (by decide) hk
 have e:((m:Int)-1)=((m-1:Nat):Int):=by omega
 unfold ZeX
 rw[e]
 have e2:(BitVec.ofInt IntKind.i64.bits (a:Int)&&&BitVec.ofInt IntKind.i64.bits ((m-1:Nat):Int)).toNat=a % m:=by
  rw[BitVec.toNat_and]
  have hb:(2:Nat)^IntKind.i64.bits=18446744073709551616:=by decide
  rw[ZeU (k:=IntKind.i64.bits) (n:=m-1) (by omega),ZeU (k:=IntKind.i64.bits) (n:=a) (by omega),hm,Nat.and_two_pow_sub_one_eq_mod]
 rw[e2]
 have:=w'W a (show 0<m by omega)
 rw[w64 (by omega)]
abbrev u8D (c:UInt8):D:= .is (.int .u8 c.toNat)
abbrev ZaA (s:ByteArray):List Value:=s.data.toList.map fun c=>Value.int .u8 c.toNat
abbrev Zbk (s:ByteArray):List D:=s.data.toList.map u8D
theorem ZdM (s:ByteArray):(ZaA s).length=s.size:=by simp[ZaA]
theorem Zj6 (s:ByteArray):(Zbk s).length=s.size:=by simp[Zbk]
theorem Zid {P:Program} (w:World) (dT sT ty elem:TypeId) {inf:TypeInfo} (g dLen dCap:Nat) (s:ByteArray) (cur:Array Value) (t:TypeId)
  (hu:P.underlying dT=some (.slice elem)) (hi:P.info? elem=some inf) (hg:w.heap[g]?=some (.cells cur t (0,0))) (hfit:Nat.min s.size dLen≤cur.size):
  (Builtin.copy_ #[dT,sT] ty #[.slice (some ⟨g,0,none⟩) dLen dCap,.string s]).run P w=
   .ok (goInt (Nat.min s.size dLen)) (w.setRow g ((ZaA s).take (Nat.min s.size dLen)++cur.toList.drop (Nat.min s.size dLen)).toArray):=by
 have hl:((ZaA s).take (Nat.min s.size dLen)).length=Nat.min s.size dLen:=by
  rw[z'A,ZdM]
  exact w'O (Nat.min_le_left _ _)
 have hst:=run_storeCells_at P g 0 t ((ZaA s).take (Nat.min s.size dLen)) 0 cur w hg (by rw[hl];simpa using hfit) (by
  intro v hv
  obtain⟨c,_,rfl⟩:=z'y.1 (v'x hv)
  rfl)
 rw[hl]at hst
 simp only[y'q,w'G,z'N]at hst
 simp[Builtin.copy_,run_underlying hu,Builtin.lenOf,Builtin.firstCells,sizeOf,typeInfo,hi,hst]
theorem Zor {P:Program} (T:Tab P) {o:Oper} {E:Operand→D} {H:Heap} {K:D→Heap→Prop} {x y:Operand} {t u:TypeId} {e esz eb:Nat} {ea:Bool} {ez:List Value} {b cap n k:Nat} {ty:TypeId} {l:List D} {s:ByteArray}
  (ho:o.op= .call ⟨.builtin .copy, #[x,y], #[t,u]⟩) (hkd:kdT (T.get t)= .slice e esz eb ea ez) (hx0:E x= .gs (some (b,cap)) n) (hy0:E y= .is (.string s)) (hb:v'd H b=some (.cells ty k l)) (hl:l.length=k) (hn:n≤k)
  (hk:K (.is (.int .i64 (Nat.min s.size n:Nat))) (hset H b (.cells ty k ((Zbk s).take (Nat.min s.size n)++l.drop (Nat.min s.size n))))):Op1 P o E H K:=by
 obtain⟨hu,hkn,hsz,_⟩:=w'E T hkd
 obtain⟨d,inf,z,_,hinf,_,h4,_⟩:=x'Q hkn
 have hm:=w'2 hb
 have hmn:Nat.min s.size n≤n:=Nat.min_le_right _ _
 have hms:Nat.min s.size n≤s.size:=Nat.min_le_left _ _
 have hrun0:=fun(w:World) (arr:Array Value) (hbb:w.heap[b]?=some (.cells arr ty (0,0))) (hnn:arr.size=k)=>Zid (P:=P) w t u o.type e b n cap s arr ty hu hinf hbb (by omega)
 generalize Nat.min s.size n=m at*
 have hbm:b∈H.blocks:=z'y.2 ⟨_,hm,rfl⟩
 refine⟨fun d' H'=>d'= .is (.int .i64 (m:Nat))∧H'=hset H b (.cells ty k ((Zbk s).take (m)++l.drop (m))),?_,fun _ _ ⟨h1,h2⟩=>h1▸h2▸hk⟩
 intro w L0 ε hi hx
 have h1:=hx x (by simp[ho,Op.operands,Call.operands])
 have h2:=hx y (by simp[ho,Op.operands,Call.operands])
 rw[hx0,Rel]at h1
 rw[hy0]at h2
 have h2':ε y= .string s:=h2
 obtain⟨hv,hcap⟩:=h1
 obtain⟨hl1,arr,hbb,hnn,hrel⟩:=hi.rel _ _ hm
 have hr:=hrun0 w arr hbb hnn
 have hrun:(execOp ε o).run P w= .ok (.value (goInt (m))) (w.setRow b ((ZaA s).take (m)++arr.toList.drop (m)).toArray):=by
  simp only[execOp,ho,resolve,invoke,builtin]
  have hv':ε x= .slice (some ⟨b,0,none⟩) n cap:=hv
  simp[go_sem,hv',h2',hr]
 rw[hrun]
 have hlen:((Zbk s).take (m)++l.drop (m)).length=k:=by
  rw[z'k,z'A,x'o,Zj6]
  omega
 have hone:((Zbk s).take (m)++l.drop (m)).all oneD=true:=by
  rw[List.all_append,ZaW hl1,w'S]
  exact Za3 (by rw[z'B];intro x hx;obtain⟨c,_,rfl⟩:=z'y.1 hx;rfl) _
 have hevo:Evo w H (w.setRow b ((ZaA s).take (m)++arr.toList.drop (m)).toArray) (hset H b (.cells ty k ((Zbk s).take (m)++l.drop (m)))):=ZcH hbm _ (v'm _ _ _)
 refine⟨_,_,⟨rfl,rfl⟩,rfl,?_,hevo⟩
 have hke:Keeps w (live H L0) (w.setRow b ((ZaA s).take (m)++arr.toList.drop (m)).toArray) (live H L0):=fun k hk1 hn=>⟨setRow_other w b k _ (fun e=>hn (.inr (e▸hbm))),hn⟩
 refine HInv.set hi hbm (by simp[World.setRow]) (fun k hne hk1=>setRow_other w b k _ hne) ⟨hone,_,setRow_heap w b arr _ ty _ hbb,?_,?_⟩
 ·rw[List.size_toArray,z'k,z'A,x'o,ZdM,z'3]
  omega
 ·rw[hlen]
  simp only[]
  have e1:((ZaA s).take (m)++arr.toList.drop (m)).take k=(ZaA s).take (m)++arr.toList.drop (m):=z'V (by
   rw[z'k,z'A,x'o,ZdM,z'3]
   omega)
  rw[e1]
  rw[hl,z'V (by rw[z'3];omega)]at hrel
  refine RelL.append _ _ _ _ (RelL.take _ _ _ ?_) (RelL.mono hke _ _ (RelL.drop _ _ _ hrel))
  have:=Ze3 (w.setRow b ((ZaA s).take (m)++arr.toList.drop (m)).toArray) (live H L0) (ZaA s)
  rw[List.map_map]at this
  exact this
set_option linter.unusedSectionVars false
section
variable {β : Type} [DecidableEq β]
def w'5 (T:List β) (S:List Int) (s:β) (p:Nat):Bool:=match S.getD p 0 with
 |0=>true
 |n=>decide (T[(n-1).toNat]?=some s)
theorem Zew {T:List β} {S:List Int} {s:β} {p:Nat} (hv:S[p]?=some 0):w'5 T S s p=true:=by
 unfold w'5
 rw[z'd,hv]
 rfl
theorem Zf2 {T:List β} {S:List Int} {s:β} {p i:Nat} (hv:S[p]?=some ((i:Int)+1)):w'5 T S s p=decide (T[i]?=some s):=by
 unfold w'5
 have e:((i:Int)+1-1).toNat=i:=by omega
 rw[z'd,hv]
 simp only[z'I]
 split
 ·omega
 ·rw[e]
def w'P (T:List β) (S:List Int) (h:Nat) (s:β):Nat:=((List.range S.length).find? fun j=>w'5 T S s ((h+j) % S.length)).getD 0
def ZaO (T:List β) (S:List Int) (h:Nat) (s:β):Nat:=(h+w'P T S h s) % S.length
structure TI (hm:β→Nat) (T:List β) (S:List Int) (n:Nat):Prop where
 nT:n≤T.length
 nd:T.Nodup
 free:S.count 0+n=S.length
 val: ∀(p:Nat) (v:Int),S[p]?=some v→v=0∨ ∃i:Nat,i<n∧v=(i:Int)+1
 path: ∀(i:Nat) s,i<n→T[i]?=some s→ ∃j,j<S.length∧S[(hm s+j) % S.length]?=some ((i:Int)+1)∧ ∀j',j'<j→ ∃v,S[(hm s+j') % S.length]?=some v∧v≠0∧v≠(i:Int)+1
theorem Zke {T:List β} {S:List Int} {h:Nat} {s:β} {j:Nat} (hj:j<S.length) (hs:w'5 T S s ((h+j) % S.length)=true) (hb: ∀j',j'<j→w'5 T S s ((h+j') % S.length)=false):w'P T S h s=j:=by
 unfold w'P
 have:(List.range S.length).find? (fun j=>w'5 T S s ((h+j) % S.length))=some j:=by
  rw[List.find?_eq_some_iff_getElem]
  refine⟨hs,j,by simpa using hj,by simp,fun i hi=>?_⟩
  simp[hb i hi]
 rw[this];rfl
theorem Zje {S:List Int} (h:0<S.count 0) (a:Nat): ∃j,j<S.length∧S[(a+j) % S.length]?=some 0:=by
 obtain⟨p,hp,h0⟩:=List.mem_iff_getElem.1 (List.count_pos_iff.1 h)
 have hm:0<S.length:=by omega
 have ha:=w'W a hm
 refine⟨(p+S.length-a % S.length) % S.length,w'W _ hm,?_⟩
 have:(a+(p+S.length-a % S.length) % S.length) % S.length=p:=by
  rw[Nat.add_mod_mod]
  have h1:=Nat.mod_add_div a S.length
  have:a+(p+S.length-a % S.length)=p+S.length*(a/S.length+1):=by
   rw[Nat.mul_add,z'w];omega
  rw[this,Nat.add_mul_mod_self_left,Nat.mod_eq_of_lt hp]
 rw[this,z'b hp,h0]
theorem Zfo {T:List β} {S:List Int} {s:β} {h:Nat} (hf:0<S.count 0):w'P T S h s<S.length∧w'5 T S s (ZaO T S h s)=true∧ ∀j',j'<w'P T S h s→w'5 T S s ((h+j') % S.length)=false:=by
 obtain⟨j0,h0,h1⟩:=Zje hf h
 have hs0:w'5 T S s ((h+j0) % S.length)=true:=by
  unfold w'5
  rw[z'd,h1];rfl
 cases hq:(List.range S.length).find? (fun j=>w'5 T S s ((h+j) % S.length))with
 |none=>
  rw[List.find?_eq_none]at hq
  exact absurd hs0 (hq j0 (z'K.2 h0))
 |some j=>
  have he:w'P T S h s=j:=by unfold w'P;rw[hq];rfl
  rw[List.find?_eq_some_iff_getElem]at hq
  obtain⟨a1,i,a2,a3,a4⟩:=hq
  simp at a3 a2
  subst a3
  unfold ZaO
  rw[he]
  refine⟨a2,a1,fun j' hj'=>?_⟩
  have:=a4 j' hj'
  simpa using this
theorem Zig {l:List β} (hn:l.Nodup) {i j:Nat} {x:β} (h1:l[i]?=some x) (h2:l[j]?=some x):i=j:=by
 obtain⟨a1,a2⟩:=z'c.1 h1
 obtain⟨b1,b2⟩:=z'c.1 h2
 exact(List.getElem_inj hn).1 (a2.trans b2.symm)
theorem ZmP {hm:β→Nat} {T:List β} {S:List Int} {n i:Nat} {s:β} (I:TI hm T S n) (hi:i<n) (hs:T[i]?=some s):S[ZaO T S (hm s) s]?=some ((i:Int)+1):=by
 obtain⟨j,h1,h2,h3⟩:=I.path i s hi hs
 have hst:w'P T S (hm s) s=j:=by
  refine Zke h1 ?_ fun j' hj'=>?_
  ·unfold w'5
   rw[z'd,h2]
   simp only[z'I]
   split
   ·rfl
   ·have:((i:Int)+1-1).toNat=i:=by omega
    rw[this];exact decide_eq_true hs
  ·obtain⟨v,hv,hn,hn2⟩:=h3 j' hj'
   rcases I.val _ v hv with rfl|⟨k,hk,rfl⟩
   ·exact absurd rfl hn
   ·unfold w'5
    rw[z'd,hv]
    have e:((k:Int)+1-1).toNat=k:=by omega
    simp only[z'I,e]
    rw[decide_eq_false_iff_not]
    intro hk'
    have:k=i:=Zig I.nd hk' hs
    subst this
    exact hn2 rfl
 unfold ZaO
 rw[hst];exact h2
theorem Zjw {hm:β→Nat} {T:List β} {S:List Int} {n:Nat} {s:β} (I:TI hm T S n) (hf:0<S.count 0) (hs: ∀i:Nat,i<n→T[i]?≠some s):
  S[ZaO T S (hm s) s]?=some 0∧w'P T S (hm s) s<S.length∧ ∀j',j'<w'P T S (hm s) s→ ∃v,S[(hm s+j') % S.length]?=some v∧v≠0:=by
 obtain⟨h1,h2,h3⟩:=Zfo (T:=T) (S:=S) (s:=s) (h:=hm s) hf
 have hp:ZaO T S (hm s) s<S.length:=w'W _ (by omega)
 obtain⟨v,hv⟩: ∃v,S[ZaO T S (hm s) s]?=some v:=⟨_,z'b hp⟩
 refine⟨?_,h1,fun j' hj'=>?_⟩
 ·rcases I.val _ v hv with rfl|⟨k,hk,rfl⟩
  ·exact hv
  ·exfalso
   unfold w'5 at h2
   rw[z'd,hv]at h2
   simp only[z'I]at h2
   split at h2
   ·omega
   ·have e:((k:Int)+1-1).toNat=k:=by omega
    rw[e]at h2
    exact hs k hk (of_decide_eq_true h2)
 ·have hq:(hm s+j') % S.length<S.length:=w'W _ (by omega)
  obtain⟨w,hw⟩: ∃w,S[(hm s+j') % S.length]?=some w:=⟨_,z'b hq⟩
  refine⟨w,hw,fun h0=>?_⟩
  subst h0
  have:=h3 j' hj'
  unfold w'5 at this
  rw[z'd,hw]at this
  cases this
theorem TI.put {hm:β→Nat} {T:List β} {S:List Int} {n:Nat} {s:β} (I:TI hm T S n) (hn:T[n]?=some s) (hf:0<S.count 0):TI hm T (S.set (ZaO T S (hm s) s) ((n:Int)+1)) (n+1):=by
 have hno: ∀i:Nat,i<n→T[i]?≠some s:=fun i hi h=>by
  have:=Zig I.nd h hn;omega
 obtain⟨h1,h2,h3⟩:=Zjw I hf hno
 have hp:=(z'c.1 h1).1
 have hlt:=(z'c.1 hn).1
 refine⟨by omega,I.nd,?_,?_,?_⟩
 ·have:=I.free
  rw[y'u,List.count_set hp]
  have e1:(S[ZaO T S (hm s) s] == 0)=true:=by
   have:=(z'c.1 h1).2
   rw[this];rfl
  have e2:(((n:Int)+1) == 0)=false:=by rw[beq_eq_false_iff_ne];omega
  rw[e1,e2]
  simp
  omega
 ·intro p v hv
  rw[v'7]at hv
  split at hv
  ·rename_i hpp
   subst hpp
   cases hv;exact .inr ⟨n,by omega,rfl⟩
  ·rcases I.val p v hv with rfl|⟨i,hi,rfl⟩
   ·exact .inl rfl
   ·exact .inr ⟨i,by omega,rfl⟩
 ·intro i t hi ht
  rw[y'u]
  have keep: ∀(q:Nat) (v:Int),S[q]?=some v→v≠0→(S.set (ZaO T S (hm s) s) ((n:Int)+1))[q]?=some v:=by
   intro q v hv h0
   rw[v'y]
   ·exact hv
   ·intro e;subst e;rw[h1]at hv;cases hv;exact h0 rfl
  rcases z'g i n with hlt'|hge
  ·obtain⟨j,k1,k2,k3⟩:=I.path i t hlt' ht
   refine⟨j,k1,keep _ _ k2 (by omega),fun j' hj'=>?_⟩
   obtain⟨v,q1,q2,q3⟩:=k3 j' hj'
   exact⟨v,keep _ _ q1 q2,q2,q3⟩
  ·obtain rfl:i=n:=by omega
   rw[hn]at ht
   cases ht
   refine⟨w'P T S (hm s) s,h2,?_,fun j' hj'=>?_⟩
   ·have:(hm s+w'P T S (hm s) s) % S.length=ZaO T S (hm s) s:=rfl
    rw[this,List.getElem?_set_self hp]
   ·obtain⟨v,q1,q2⟩:=h3 j' hj'
    refine⟨v,keep _ _ q1 q2,q2,?_⟩
    rcases I.val _ v q1 with rfl|⟨k,hk,rfl⟩
    ·exact absurd rfl q2
    ·omega
theorem TI.more {hm:β→Nat} {T:List β} {S:List Int} {n:Nat} (I:TI hm T S n) {s:β} (hs:s∉T):TI hm (T++[s]) S n:=by
 refine⟨by rw[z'k];have:=I.nT;omega,x'J.2 ⟨I.nd,by simp,fun x hx y hy=>by simp at hy;rintro rfl;exact hs (hy▸hx)⟩,I.free,I.val,fun i t hi ht=>?_⟩
 rw[y'f (by have:=I.nT;omega)]at ht
 exact I.path i t hi ht
theorem TI.none (hm:β→Nat) {T:List β} (hn:T.Nodup) (m:Nat):TI hm T (List.replicate m 0) 0:=by
 refine⟨z'6 _,hn,by simp,fun p v hv=>?_,fun i s hi=>by omega⟩
 rw[List.getElem?_replicate]at hv
 split at hv
 ·cases hv;exact .inl rfl
 ·cases hv
end
end Go.Proofs.YtomcmfbpmkklmaaGreat
