/- The plain law of queues. No condition. -/
import Derived.Test.YthlkpnjjkgmlkaaGreatWd
import Derived.Test.YthlkpnjjkgmlkaaGreatEh
namespace Go.Proofs.YthlkpnjjkgmlkaaGreat
set_option linter.unusedSimpArgs false
set_option linter.unusedVariables false
set_option maxRecDepth 20000
open Go Go.Proofs Go.Vc
attribute [local irreducible] x'c VCg VCw VCx
theorem v'o {H:Heap}:FzL H [] []:=rfl
theorem z'4 {H:Heap} {d' d:D} {ds' ds:List D} (h:Fz H d' d) (hs:FzL H ds' ds):FzL H (d'::ds') (d::ds):=⟨d,ds,rfl,h,hs⟩
theorem ZjB {H:Heap} {f:Bool} {esz:Nat} {rows:List (List D)}:Fz H (.sl false esz rows) (.sl f esz rows):= .inr ⟨rfl,.inl ⟨f,rfl⟩⟩
theorem w'v {H:Heap} {esz:Nat}:Fz H (.sl false esz []) (.gs none 0):= .inr ⟨rfl,.inr (.inl ⟨rfl,rfl⟩)⟩
theorem ZgG {H:Heap} {d' d:D} {ds:List D} (h:Fz H d' d):FzL H (d'::ds) (d::ds):=z'4 h (FzL.refl _ _)
theorem ZiW {H:Heap} {d0 d' d:D} {ds:List D} (h:Fz H d' d):FzL H (d0::d'::ds) (d0::d::ds):=z'4 (Fz.refl _ _) (ZgG h)
theorem HInv.none {w:World} {L0:Nat→Prop} (h:HInv w L0 []):Zd8 w L0 [] [] (live [] L0):=⟨h,fun b c hm=>(by cases hm),fun b _ hl=>hl⟩
theorem Fun.argsW {P:Program} {f:FuncId} {args args':List D} {d:D} (h:Pure P f args' d) (hf:FzL [] args' args):Pure P f args d:=
 ⟨h.1,fun w L0 vs hi hr=>h.2 w L0 vs hi (RelL.fz (HInv.none hi) _ _ _ hf hr)⟩
def ZeZ (k:IntKind) (x y:Int):Int:=k.wrap ((BitVec.ofInt k.bits x&&&BitVec.ofInt k.bits y).toNat:Nat)
theorem ZtM {P:Program} {o:Oper} {E:Operand→D} {H:Heap} {t u:TypeId} {x y:Operand} {k:IntKind} {a b:Int} (ho:o.op= .binOp .and t x y u) (ha:E x= .is (.int k a)) (hb:E y= .is (.int k b)):
  OpS P o E H (fun d' H'=>d'= .is (.int k (ZeZ k a b))∧H'=H):=by
 refine OpS.value fun w L0 ε hi hx=>?_
 have h1:=hx x (by simp[ho,Op.operands])
 have h2:=hx y (by simp[ho,Op.operands])
 rw[ha]at h1;rw[hb]at h2
 have h1':ε x= .int k a:=h1
 have h2':ε y= .int k b:=h2
 have hg:(eqGuard .and t x y (.int k a) (.int k b)).run P w= .ok () w:=y'T trivial
 refine⟨.int k (ZeZ k a b),?_,rfl⟩
 simp only[execOp,ho,h1',h2']
 rw[z'e (a:=Value.int k (ZeZ k a b)) (w':=w) (by rw[z'e hg];simp only[binOp,ne_eq,not_true_eq_false,if_false,Op.intBits];rfl)]
 rfl
theorem VCg.stepS {P:Program} (T:Tab P) {ops:Array Oper} {H:Heap} {K:(Nat→D)→List (Tmp×NewI)→Prop} {m:Nat} {E:Nat→D} {news:List (Tmp×NewI)} {o:Oper} {l:List Oper} {d:D} {t:Tmp}
  (hg:o.guard=none) (ht:o.dst=some t) (h1:OpS P o (evD E) H (fun d' H'=>d'=d∧H'=H)) (h2:VCg T ops H K m l (upd E t d) news):VCg T ops H K (m+1) (o::l) E news:=
 by unfold VCg;exact⟨.det d,⟨.inl hg,h1⟩,by rw[w'q,z's,ht];exact h2⟩
def ZtJ (x:En):Prop:=(0≤x.1∧x.1<4)∧(0≤x.2∧x.2<8)
def InvQ (m:Int) (is b:List En):Prop:=b.length=is.length∧(∀x,x∈b→ZtJ x)∧(m=2∧b=is∨m=3∧Srt b∧SameQ is b)
theorem InvQ.zero {m:Int} (h:m=2∨m=3):InvQ m [] []:=⟨rfl,fun x h=>(by cases h),h.imp (fun h=>⟨h,rfl⟩) (fun h=>⟨h,trivial,fun _=>rfl⟩)⟩
theorem InvQ.push {m:Int} {is b:List En} {e:En} (h:InvQ m is b) (he:ZtJ e):InvQ m (is++[e]) (w'M m e b):=by
 obtain⟨h1,h2,h3⟩:=h
 rcases h3 with⟨rfl,rfl⟩|⟨rfl,h4,h5⟩
 ·have hp:w'M 2 e b=b++[e]:=rfl
  rw[hp]
  refine⟨rfl,fun x hx=>?_,.inl ⟨rfl,rfl⟩⟩
  rcases z'W.1 hx with hx|hx
  ·exact h2 x hx
  ·rw[z'V]at hx;subst hx;exact he
 ·have hp:w'M 3 e b=w'T e b:=rfl
  rw[hp]
  refine⟨by rw[ZkN,z'h,h1];rfl,fun x hx=>?_,.inr ⟨rfl,ZgQ e b h4,fun loc=>?_⟩⟩
  ·rcases(ZeE e b x).1 hx with rfl|hx
   ·exact he
   ·exact h2 x hx
  ·rw[ZgP e loc b h4,v'a,h5 loc]
theorem Srt.le {b:List En} (h:Srt b): ∀(i:Nat) (x y:En),b[i]?=some x→b[i+1]?=some y→x.1≤y.1:=by
 induction b with
 |nil=>intro i x y hx;simp at hx
 |cons a r ih=>
  intro i x y hx hy
  cases i with
  |zero=>
   obtain rfl:a=x:=by simpa using hx
   exact h.1 y (z'l (by simpa using hy))
  |succ i=>exact ih h.2 i x y (by simpa using hx) (by simpa using hy)
def Inv2 (m:Int) (is b:List En):Prop:=b.length=is.length∧(m=2∧b=is∨m=3∧SameQ is b)
theorem ZoR {m:Int} {b:List En} {l:Int} (h:l∈v'5 m b): ∃i x,b[i]?=some x∧x.1=l∧ZfA m b i=true:=by
 obtain⟨i,hi,hl⟩:=z'p.1 h
 obtain⟨h1,h2⟩:=x'R.1 hi
 obtain⟨x,hx⟩: ∃x,b[i]?=some x:=⟨_,z'b (z'Q.1 h1)⟩
 exact⟨i,x,hx,by rw[←hl,hx];rfl,h2⟩
theorem Zfm {x:En} {r:List En}:v'5 2 (x::r)=[x.1]:=by
 unfold v'5 ZoQ
 have: ∀n,(List.range (n+1)).filter (ZfA 2 (x::r))=[0]:=by
  intro n
  induction n with
  |zero=>simp[ZfA]
  |succ n ih=>
   rw[y'h,z'1,ih]
   simp[ZfA]
 rw[z'u,this]
 rfl
theorem Inv2.step {m:Int} {is b:List En} (h:Inv2 m is b) (hne:is≠[]):
  ∃l j k x,(v'5 m b)[(v'5 m b).length-1]?=some l∧0<(v'5 m b).length∧(m=2→(v'5 m b)[0]?=(is[0]?).map (·.1))∧w'9 m l b=some j∧w'u l is=some k∧b[j]?=some x∧is[k]?=some x∧Inv2 m (ZaN k is) (ZaN j b):=by
 obtain⟨h1,h2⟩:=h
 have lens: ∀(k j:Nat),k<is.length→j<b.length→(ZaN j b).length=(ZaN k is).length:=fun k j hk hj=>by simp[ZaN];omega
 rcases h2 with⟨rfl,rfl⟩|⟨rfl,hq⟩
 ·rcases b with _|⟨x,r⟩
  ·exact absurd rfl hne
  ·have hn:w'9 2 x.1 (x::r)=some 0:=by simp[w'9]
   have hf:w'u x.1 (x::r)=some 0:=by simp[w'u]
   exact⟨x.1,0,0,x,by rw[Zfm];rfl,by rw[Zfm];exact Nat.one_pos,fun _=>by rw[Zfm];rfl,hn,hf,rfl,rfl,rfl,.inl ⟨rfl,rfl⟩⟩
 ·rcases b with _|⟨y,r⟩
  ·exact absurd (z'C h1.symm) hne
  ·have h0:ZfA 3 (y::r) 0=true:=by simp[ZfA,w'u]
   have hmem:y.1∈v'5 3 (y::r):=z'p.2 ⟨0,x'R.2 ⟨z'Q.2 (by simp),h0⟩,rfl⟩
   have hpos:0<(v'5 3 (y::r)).length:=List.length_pos_of_mem hmem
   obtain⟨l,hl⟩: ∃l,(v'5 3 (y::r))[(v'5 3 (y::r)).length-1]?=some l:=⟨_,z'b (by omega)⟩
   obtain⟨i,x,hx,hxl,hs⟩:=ZoR (z'l hl)
   have hfi:w'u l (y::r)=some i:=by
    simp only[ZfA,hx,z'M,hxl]at hs
    simpa using hs
   have hk: ∃k,w'u l is=some k:=by
    cases hc:w'u l is with
    |some k=>exact⟨k,rfl⟩
    |none=>
     have:=hq l
     rw[ZiV hc]at this
     obtain⟨z,p,q,e,_,hz,_⟩:=Zcb hfi
     rw[e,v'a]at this
     have hzq:que l (z::q)=z::que l q:=by rw[que,w'J];simp[hz,que]
     rw[hzq]at this
     simp at this
   obtain⟨k,hk⟩:=hk
   obtain⟨e1,e2⟩:=SameQ.cut hq hk hfi
   exact⟨l,i,k,x,hl,hpos,fun h=>absurd h (by decide),by simp[w'9,hfi],hk,hx,by rw[e1,hx],lens _ _ (Zh9 hk) (Zh9 hfi),.inr ⟨rfl,e2⟩⟩
theorem Weak.trans {s s' s'':St} (h:Weak s s') (h':Weak s' s''):Weak s s'':=fun x a w hs=>h' x a w (h x a w hs)
theorem Zoc {g:Option (Nat×Nat)} {e:TypeId} {esz n:Nat} {rows:List (List D)} (hg:gOk g n) (hn:rows.length=n) (hr: ∀r,r∈rows→r.length=esz):Fz (shp g e esz rows.flatten []) (.sl false esz rows) (.gs g n):=by
 subst hn
 cases g with
 |none=>
  have h0:rows=[]:=z'C hg
  subst h0
  exact .inr ⟨rfl,.inr (.inl ⟨rfl,rfl⟩)⟩
 |some p=>
  obtain⟨b,cap⟩:=p
  exact .inr ⟨rfl,.inr (.inr ⟨b,0,rows.length,cap,.inl ⟨rfl,rfl⟩,rfl,e,_,_,z'n ..,FzR.refl _ _ hr⟩)⟩
theorem Op1.ofS {P:Program} {o:Oper} {E:Operand→D} {H:Heap} {d:D} {K:D→Heap→Prop} (h:OpS P o E H (fun d' H'=>d'=d∧H'=H)) (hk:K d H):Op1 P o E H K:=
 ⟨_,h,fun d' H' ⟨h1,h2⟩=>h1▸h2▸hk⟩
def ZlL (k:IntKind) (x y:Int):Int:=k.wrap ((BitVec.ofInt k.bits x^^^BitVec.ofInt k.bits y).toNat:Nat)
theorem ZrF {P:Program} {o:Oper} {E:Operand→D} {H:Heap} {t u:TypeId} {x y:Operand} {k:IntKind} {a b:Int} {K:D→Heap→Prop} (ho:o.op= .binOp .xor t x y u) (ha:E x= .is (.int k a)) (hb:E y= .is (.int k b))
  (hk:K (.is (.int k (ZlL k a b))) H):Op1 P o E H K:=by
 refine Op1.ofS (OpS.value fun w L0 ε hi hx=>?_) hk
 have h1:=hx x (by simp[ho,Op.operands])
 have h2:=hx y (by simp[ho,Op.operands])
 rw[ha]at h1;rw[hb]at h2
 have h1':ε x= .int k a:=h1
 have h2':ε y= .int k b:=h2
 have hg:(eqGuard .xor t x y (.int k a) (.int k b)).run P w= .ok () w:=y'T trivial
 refine⟨.int k (ZlL k a b),?_,rfl⟩
 simp only[execOp,ho,h1',h2']
 rw[z'e (a:=Value.int k (ZlL k a b)) (w':=w) (by rw[z'e hg];simp only[binOp,ne_eq,not_true_eq_false,if_false,Op.intBits];rfl)]
 rfl
theorem ZrA {P:Program} {o:Oper} {E:Operand→D} {H:Heap} {t u:TypeId} {x y:Operand} {k:IntKind} {a b:Int} {K:D→Heap→Prop} (ho:o.op= .binOp .and t x y u) (ha:E x= .is (.int k a)) (hb:E y= .is (.int k b))
  (hk:K (.is (.int k (ZeZ k a b))) H):Op1 P o E H K:=Op1.ofS (ZtM ho ha hb) hk
def ZnZ (k:IntKind) (x y:Int):Int:=x.fdiv (2^min y.toNat k.bits)
theorem Zul {P:Program} {o:Oper} {E:Operand→D} {H:Heap} {t u:TypeId} {x y:Operand} {k k':IntKind} {a b:Int} {K:D→Heap→Prop} (ho:o.op= .binOp .shr t x y u) (ha:E x= .is (.int k a)) (hb:E y= .is (.int k' b)) (h0:0≤b)
  (hk:K (.is (.int k (ZnZ k a b))) H):Op1 P o E H K:=by
 refine Op1.ofS (OpS.value fun w L0 ε hi hx=>?_) hk
 have h1:=hx x (by simp[ho,Op.operands])
 have h2:=hx y (by simp[ho,Op.operands])
 rw[ha]at h1;rw[hb]at h2
 have h1':ε x= .int k a:=h1
 have h2':ε y= .int k' b:=h2
 have hg:(eqGuard .shr t x y (.int k a) (.int k' b)).run P w= .ok () w:=y'T trivial
 refine⟨.int k (ZnZ k a b),?_,rfl⟩
 simp only[execOp,ho,h1',h2']
 rw[z'e (a:=Value.int k (ZnZ k a b)) (w':=w) (by rw[z'e hg];simp only[binOp,Op.shift];rw[if_neg (by omega)];rfl)]
 rfl
theorem ZsF {P:Program} {o:Oper} {E:Operand→D} {H:Heap} {t u:TypeId} {x:Operand} {K:D→Heap→Prop} (ho:o.op= .binOp .neq t x (.const (.pointer none)) u) (hx0:(∃l,E x= .pt l)∨ ∃a,E x= .is (.pointer (some a)))
  (hy0:E (.const (.pointer none))= .is (.pointer none)) (hu:P.underlying t=some (.pointer (P.pointee t))) (hk:K (.is (.bool true)) H):Op1 P o E H K:=by
 refine Op1.ofS (OpS.value fun w L0 ε hi hx=>?_) hk
 have h1:=hx x (by simp[ho,Op.operands])
 have h2:=hx (.const (.pointer none)) (by simp[ho,Op.operands])
 obtain⟨a,ha⟩: ∃a,ε x= .pointer (some a):=by
  rcases hx0 with⟨l,e⟩|⟨a,e⟩
  ·rw[e,Rel]at h1;obtain⟨b,o,h,_⟩:=h1;exact⟨_,h⟩
  ·rw[e]at h1;exact⟨a,h1⟩
 rw[hy0]at h2
 have h2':ε (.const (.pointer none))= .pointer none:=h2
 have hg:(eqGuard .neq t x (.const (.pointer none)) (.pointer (some a)) (.pointer none)).run P w= .ok () w:=y'T trivial
 refine⟨.bool true,?_,rfl⟩
 simp only[execOp,ho,ha,h2']
 rw[z'e (a:=Value.bool true) (w':=w) (by rw[z'e hg];exact run_neq_pointer_nil w t (some a) hu)]
 rfl
theorem ZqZ {P:Program} (T:Tab P) {o:Oper} {E:Operand→D} {H:Heap} {K:D→Heap→Prop} {t:TypeId} {x i:Operand} {n:Nat} {ik:IntKind} {m:Int} {l:List D} {d:D} (ho:o.op= .index t x i)
  (hk0:kdT (T.get t)= .array n 1 false) (hx0:E x= .agg l) (hi0:E i= .is (.int ik m)) (hm:0≤m∧m<n) (hd:l[m.toNat]?=some d) (hk:K d H):Op1 P o E H K:=by
 obtain⟨e,hu,hkn,hsz⟩:=ZeG T hk0
 have hag:Zct P e=false:=by
  unfold kdT at hk0
  cases hkn':(T.get t).known with
  |false=>rw[hkn']at hk0;cases hk0
  |true=>
   rw[hkn']at hk0
   obtain⟨d',i',z',h1,h2,h3,h4,_⟩:=T.facts hkn'
   simp only[h4]at hk0
   rw[hu]at h1
   cases h1
   simp only[x'4,hkn,Kd.array.injEq]at hk0
   exact hk0.2.2
 obtain⟨d1,inf,z,h1,h2,h3,h4,h5,_⟩:=y'7 hkn
 rw[hsz]at h4
 refine Op1.ofS (d:=d) (OpS.value fun w L0 ε hi hx=>?_) hk
 have r1:=hx x (by simp[ho,Op.operands])
 have r2:=hx i (by simp[ho,Op.operands])
 rw[hx0,Rel]at r1;rw[hi0]at r2
 obtain⟨hone,cs,hv,hr⟩:=r1
 have r2':ε i= .int ik m:=r2
 obtain⟨v,q1,q2⟩:=RelL.get _ _ hr m.toNat d hd
 refine⟨v,?_,q2⟩
 have q1':cs[m.toNat]?=some v:=by simpa using q1
 simp only[execOp,ho,hv,r2',Instr.index]
 refine(z'e (a:=v) (w':=w) ?_).trans rfl
 refine(z'e (a:=(ik,m)) (w':=w) rfl).trans ?_
 simp only
 rw[z'e (run_underlying hu w)]
 simp only
 rw[if_pos hm,z'e (v'P h2 w),h4,z'K]
 unfold part
 rw[z'e (Zcl h1 w),show Zcn d1=false by rw[h5];exact hag]
 simp only[y'Z,if_false,q1']
 rfl
theorem Zpe {P:Program} (T:Tab P) {o:Oper} {E:Operand→D} {H:Heap} {t:TypeId} {x:Operand} {n esz:Nat} {ea:Bool} {b:Nat} (ho:o.op= .slice t x none none none)
  (hk0:kdT (T.get t)= .array n esz ea) (hx0:E x= .is (.pointer (some ⟨b,0,none⟩))):OpS P o E H (fun d' H'=>d'= .gs (some (b,n)) n∧H'=H):=by
 obtain⟨e,hu,hkn,hsz⟩:=ZeG T hk0
 obtain⟨d1,inf,z,h1,h2,h3,h4,_⟩:=y'7 hkn
 refine OpS.value fun w L0 ε hi hx=>?_
 have r1:=hx x (by simp[ho,Op.operands])
 rw[hx0]at r1
 have r1':ε x= .pointer (some ⟨b,0,none⟩):=r1
 refine⟨.slice (some ⟨b,0,none⟩) n n,?_,rfl,z'f _⟩
 simp only[execOp,ho,r1',Instr.sliceAt,y'3]
 refine(z'e (a:= .slice (some ⟨b,0,none⟩) n n) (w':=w) ?_).trans rfl
 rw[z'e (run_underlying hu w)]
 simp only
 refine(z'e (a:=(⟨b,0,none⟩:Addr)) (w':=w) rfl).trans ?_
 refine(z'e (a:=(0,n,n)) (w':=w) (by simp[Instr.sliceBounds,go_sem])).trans ?_
 simp only
 rw[z'e (v'P h2 w),w'c,Nat.sub_zero,Zap]
 split<;>rfl
theorem Op1.lendO {P:Program} {o:Oper} {E E':Operand→D} {H:Heap} {d0:D} {K:D→Heap→Prop} (h:OpS P o E' [] (fun d H'=>d=d0∧H'=[])) (ha: ∀x,x∈o.op.operands→Fz H (E' x) (E x)) (hp:ZcZ d0=true) (hk:K d0 H):Op1 P o E H K:=by
 refine⟨fun d H'=>d=d0∧H'=H,?_,fun d H' ⟨h1,h2⟩=>h1▸h2▸hk⟩
 intro w L0 ε hi hx
 have hlet:Zd8 w L0 H H (live [] L0):=⟨hi,fun b c hm=>⟨hm,fun hl=>by
  rcases hl with hl|hl
  ·exact hi.apart b (z'p.2 ⟨_,hm,rfl⟩) hl
  ·cases hl⟩,fun b _ hl=>by
  rcases hl with hl|hl
  ·exact .inl hl
  ·cases hl⟩
 have hi0:HInv w L0 []:=⟨fun b c hm=>(by cases hm),x'Y,fun b hb=>(by cases hb),hi.old⟩
 have hg:=h w L0 ε hi0 (fun x hm=>Rel.fz hlet _ _ _ (ha x hm) (hx x hm))
 have key: ∀v w',(∃d Hp,(d=d0∧Hp=[])∧Rel w' (live Hp L0) d v∧HInv w' L0 Hp∧Evo w [] w' Hp)→ ∃d H',(d=d0∧H'=H)∧Rel w' (live H' L0) d v∧HInv w' L0 H'∧Evo w H w' H':=by
  rintro v w' ⟨d,Hp,⟨rfl,rfl⟩,hrel,hi',he⟩
  have hblk: ∀b,b<w.heap.size→w'.heap[b]?=w.heap[b]?:=fun b hb=>he.block b hb (by simp[Heap.blocks])
  have hlt: ∀b,b∈H.blocks→b<w.heap.size:=fun b hb=>hi.lt hb
  have hkeep:Keeps w (live H L0) w' (live H L0):=fun b hb hn=>⟨hblk b hb,hn⟩
  exact⟨d,H,⟨rfl,rfl⟩,Rel.plain hp hrel,⟨fun b c hm=>(hi.rel b c hm).mono hkeep (hblk b (hlt b (z'p.2 ⟨_,hm,rfl⟩))),hi.nodup,hi.apart,hi'.old⟩,
   ⟨he.os,he.tape,he.output,he.size,fun b hb _=>hblk b hb,fun b hb=> .inl hb⟩⟩
 exact hg.mono key
theorem ZsA {P:Program} (T:Tab P) {o:Oper} {E:Operand→D} {H:Heap} {K:D→Heap→Prop} {t u:TypeId} {x:Operand} {d' d0:D} (ho:o.op= .convert t u x) (hz:Fz H d' (E x))
  (hs:opC T o (fun _=>d') [] (fun d H'=>d=d0∧H'=[])) (hp:ZcZ d0=true) (hk:K d0 H):Op1 P o E H K:=
 Op1.lendO (let ⟨_,h1,h2⟩:=w'P T hs;h1.mono h2) (fun y hy=>by
  have:y=x:=by simpa[ho,Op.operands]using hy
  subst this;exact hz) hp hk
theorem Zo7:NamesOk Tryz.prog:=NamesOk.of (by kernel_rfl)
noncomputable def pwF (f:Nat) (g:Vc.G):Bool:=Zfp f [56]||(Zuy g&& !Zfp f [96,99,187,275,247])
def ZuA:Vc.G:= .str [109,111,100,32,50,59,32,108,111,99,32,120,32,61,32,48,59,32,116,104,114,101,97,100,32,116,32,123,32,115,116,111,114,101,32,120,32,61,32,49,59,32,125,32,116,104,114,101,97,100,32,117,32,123,32,115,116,111,114,101,32,120,32,61,32,48,59,32,125]
abbrev Zux:D:=sD ⟨#[109,111,100,32,50,59,32,108,111,99,32,120,32,61,32,48,59,32,116,104,114,101,97,100,32,116,32,123,32,115,116,111,114,101,32,120,32,61,32,49,59,32,125,32,116,104,114,101,97,100,32,117,32,123,32,115,116,111,114,101,32,120,32,61,32,48,59,32,125]⟩
def Ztr:Vc.G:= .agg [.int .i64 2,.sl false 3 [[.str [120],.int .i64 0,.int .i64 7]],.sl false 4 [[.str [116],.nils,.sl false 9 [[.int .i64 4,.str [],.str [120],.sl true 5 [[.int .i64 1,.int .i64 1,.str [],.str [],.int .i64 39]],.nils,.bool false,.int .i64 0,.int .i64 0,.int .i64 29]],.int .i64 18],[.str [117],.nils,.sl false 9 [[.int .i64 4,.str [],.str [120],.sl true 5 [[.int .i64 1,.int .i64 0,.str [],.str [],.int .i64 65]],.nils,.bool false,.int .i64 0,.int .i64 0,.int .i64 55]],.int .i64 44]],.nils]
abbrev Zh4:D:= .agg [iD 2,.sl false 3 [[sD ⟨#[120]⟩,iD 0,iD 7]],.sl false 4 [[sD ⟨#[116]⟩,.gs none 0,.sl false 9 [[iD 4,sD ⟨#[]⟩,sD ⟨#[120]⟩,.sl true 5 [[iD 1,iD 1,sD ⟨#[]⟩,sD ⟨#[]⟩,iD 39]],.gs none 0,bD false,iD 0,iD 0,iD 29]],iD 18],[sD ⟨#[117]⟩,.gs none 0,.sl false 9 [[iD 4,sD ⟨#[]⟩,sD ⟨#[120]⟩,.sl true 5 [[iD 1,iD 0,sD ⟨#[]⟩,sD ⟨#[]⟩,iD 65]],.gs none 0,bD false,iD 0,iD 0,iD 55]],iD 44]],.gs none 0]
def ZuB:Vc.G:= .tup [.agg [.int .i64 2,.sl false 1 [[.int .i64 0]],.sl false 1 [[.int .i64 0],[.int .i64 0]],.sl false 1 [[.sl false 7 [[.int .i64 4,.int .i64 0,.int .i64 0,.sl false 3 [[.int .i64 1,.int .i64 1,.int .i64 0]],.nils,.bool false,.int .i64 0],[.int .i64 22,.int .i64 0,.int .i64 0,.nils,.nils,.bool false,.int .i64 0]]],[.sl false 7 [[.int .i64 4,.int .i64 0,.int .i64 0,.sl false 3 [[.int .i64 1,.int .i64 0,.int .i64 0]],.nils,.bool false,.int .i64 0],[.int .i64 22,.int .i64 0,.int .i64 0,.nils,.nils,.bool false,.int .i64 0]]]]],.int .i64 0,.int .i64 0]
abbrev Ztj:D:= .tup [.agg [iD 2,.sl false 1 [[iD 0]],.sl false 1 [[iD 0],[iD 0]],.sl false 1 [[.sl false 7 [[iD 4,iD 0,iD 0,.sl false 3 [[iD 1,iD 1,iD 0]],.gs none 0,bD false,iD 0],[iD 22,iD 0,iD 0,.gs none 0,.gs none 0,bD false,iD 0]]],[.sl false 7 [[iD 4,iD 0,iD 0,.sl false 3 [[iD 1,iD 0,iD 0]],.gs none 0,bD false,iD 0],[iD 22,iD 0,iD 0,.gs none 0,.gs none 0,bD false,iD 0]]]]],iD 0,iD 0]
end Go.Proofs.YthlkpnjjkgmlkaaGreat
