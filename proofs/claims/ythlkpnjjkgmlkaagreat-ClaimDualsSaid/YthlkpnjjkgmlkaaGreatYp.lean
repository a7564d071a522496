/- Contracts: what an instruction has, whether it fits. No condition. -/
import Derived.Test.YthlkpnjjkgmlkaaGreatYlf
import Derived.Test.YthlkpnjjkgmlkaaGreatYb
import Derived.Test.YthlkpnjjkgmlkaaGreatXf
import Derived.Test.YthlkpnjjkgmlkaaGreatYi
import Derived.Test.YthlkpnjjkgmlkaaGreatBa
import Derived.Test.YthlkpnjjkgmlkaaGreatWa
import Derived.Test.YthlkpnjjkgmlkaaGreatXg
import Derived.Test.YthlkpnjjkgmlkaaGreatXe
import Derived.Test.YthlkpnjjkgmlkaaGreatK2
import Derived.Test.YthlkpnjjkgmlkaaGreatYg
import Derived.Test.YthlkpnjjkgmlkaaGreatXa
namespace Go.Proofs.YthlkpnjjkgmlkaaGreat
set_option linter.unusedSimpArgs false
set_option linter.unusedVariables false
set_option maxRecDepth 20000
open Go Go.Proofs Go.Vc
attribute [local irreducible] x'v VCg VCw VCx
end Go.Proofs.YthlkpnjjkgmlkaaGreat
/- Calls through interfaces. No condition. -/
namespace Go.Vc
set_option linter.unusedSimpArgs false
set_option linter.unusedVariables false
open Go
def Zku (P:Program) (t:TypeId) (name:String):Option FuncId:=
 match P.info? t,P.underlying t with
 |some i,some d=>(match d with
  | .pointer _=>none
  |_=>match i.methods.find? (·.name == name)with
   |some m=>(match m.path.toList,m.func with
    |[],some (f,false)=>some f
    |_,_=>none)
   |none=>none)
 |_,_=>none
theorem Zl6 {P:Program} {t:TypeId} {i:TypeInfo} (h:P.info? t=some i) (w:World):(typeInfo t).run P w= .ok i w:=by
 unfold typeInfo
 rw[z'k (a:=P) (w':=w) rfl]
 simp only[h]
 rfl
theorem Zos {P:Program} {t:TypeId} {name:String} {f:FuncId} (h:Zku P t name=some f) (n:Nat) (v:Value) (w:World):(method (n+1) t v name).run P w= .ok (f,v) w:=by
 unfold Zku at h
 split at h
 ·rename_i i d hi hd
  split at h
  ·cases h
  rename_i hnp
  split at h
  ·rename_i m hm
   split at h
   ·rename_i f' hp hf
    cases h
    unfold method
    rw[z'k (Zl6 hi w)]
    simp only[hm]
    rw[hp]
    simp only[follow]
    rw[z'k (a:=(t,Place.val v)) (w':=w) rfl]
    simp only[hf]
    unfold receiverAt
    refine(z'k (a:=v) (w':=w) ?_).trans rfl
    rw[z'k (run_underlying hd w)]
    split
    all_goals first|rfl|(exfalso;simp_all;done)|skip
   ·cases h
  ·cases h
 ·cases h
theorem Op1.enterG {P:Program} {o:Oper} {E:Operand→D} {f:FuncId} {args:List D} {H:Heap} {fr:Bool} {Φ:D→Heap→Prop} {K:D→Heap→Prop} (h:Fun P f args [] fr Φ)
  (hrun: ∀(w:World) (L:Nat→Prop) (ε:Operand→Value),(∀fn,P.funcs[f]?=some fn→fn.body.isSome=true→(fn.name == "runtime.NumGoroutine")=false→ ∀(xs:Array Value) (w:World),(callFunc f xs).run P w= .ok (.enter f xs) w)→
   (∀y,y∈o.op.operands→Rel w L (E y) (ε y))→ ∃vs:List Value,(execOp ε o).run P w= .ok (.enter f vs.toArray) w∧RelL w L args vs)
  (hk: ∀d H',Φ d H'→K d (H'++H)):Op1 P o E H K:=by
 refine⟨fun d H'=> ∃Hp',Φ d Hp'∧H'=Hp'++H,?_,fun d H' ⟨Hp',h1,h2⟩=>h2▸hk d Hp' h1⟩
 intro w L0 ε hi hx
 obtain⟨⟨fn,hf,hbody,hname⟩,h⟩:=h
 obtain⟨vs,hr,hargs⟩:=hrun w _ ε (fun fn hf hb hn xs w=>Za4 hf hb hn xs w) hx
 rw[hr]
 have same: ∀b,live [] (live H L0) b↔live H L0 b:=fun b=>by simp[live,Heap.blocks]
 have hlt: ∀b,b∈H.blocks→b<w.heap.size:=fun b hb=>hi.lt hb
 have hi1:HInv w (live H L0) []:=
  {rel:=fun b c hm=>by cases hm
   nodup:=v'W
   apart:=fun b hb=>by cases hb
   old:=fun b hl=>by
    rcases hl with hl|hl
    ·exact hi.old b hl
    ·exact hlt b hl}
 have hk1:Keeps w (live H L0) w (live [] (live H L0)):=Keeps.less fun b _ hl=>(same b).1 hl
 refine(h w (live H L0) _ hi1 (RelL.mono hk1 _ _ hargs)).mono ?_
 rintro e w' ⟨v,rfl,d,Hp',hΦ,hrel,hi',he⟩
 have hmem': ∀b,b∈(Hp'++H).blocks↔b∈Hp'.blocks∨b∈H.blocks:=fun b=>by simp[Heap.blocks]
 have hevo:Evo w H w' (Hp'++H):=
  ⟨he.os,he.tape,he.output,he.size,fun b hb hn=>he.block b hb (fun h=>by cases h),fun b hb=>by
   rcases(hmem' b).1 hb with h|h
   ·exact(he.fresh b h).imp (fun h=>by cases h) id
   ·exact .inl h⟩
 refine⟨v,rfl,d,Hp'++H,⟨Hp',hΦ,rfl⟩,?_,?_,hevo⟩
 ·refine Rel.mono (Keeps.less fun b _ hl=>?_) _ _ hrel
  rcases hl with hl|hl
  ·exact .inl (.inl (.inl hl))
  ·rcases(hmem' b).1 hl with hl|hl
   ·exact .inr hl
   ·exact .inl (.inl (.inr hl))
 ·exact
   {rel:=fun b c hm=>by
     rcases y'2.1 hm with hm|hm
     ·refine(hi'.rel b c hm).mono (Keeps.less fun b _ hl=>?_) rfl
      rcases hl with hl|hl
      ·exact .inl (.inl hl)
      ·rcases(hmem' b).1 hl with hl|hl
       ·exact .inr hl
       ·exact .inl (.inr hl)
     ·have hbr:b∈H.blocks:=z'D.2 ⟨(b,c),hm,rfl⟩
      exact(hi.rel b c hm).mono hevo.keeps (he.block b (hlt b hbr) (fun h=>by cases h))
    nodup:=by
     simp only[Heap.blocks,z'E]
     refine y'4.2 ⟨hi'.nodup,hi.nodup,fun a ha b hb hab=>?_⟩
     subst hab
     rcases he.fresh a ha with h|h
     ·cases h
     ·have:=hlt a hb;omega
    apart:=fun b hb hl=>by
     rcases(hmem' b).1 hb with h|h
     ·exact hi'.apart b h (.inl hl)
     ·exact hi.apart b h hl
    old:=fun b hl=>z'K (hi.old b hl) he.size}
theorem Op1.invoke {P:Program} {o:Oper} {E:Operand→D} {f:FuncId} {x:Operand} {name:String} {xs:Array Operand} {tys:Array TypeId} {t:TypeId} {dv:D} {args:List D} {H:Heap} {fr:Bool} {Φ:D→Heap→Prop} {K:D→Heap→Prop}
  (ho:o.op= .call ⟨.invoke x name,xs,tys⟩) (hE:E x= .ifc t dv) (hm:Zku P t name=some f) (h:Fun P f args [] fr Φ) (ha:dv::xs.toList.map E=args) (hk: ∀d H',Φ d H'→K d (H'++H)):Op1 P o E H K:=by
 subst ha
 have hF:=h.1
 obtain⟨fn,hf,hb,hn⟩:=hF
 refine Op1.enterG h (fun w L ε hc hx=>?_) hk
 have hr:=hx x (by simp[ho,Op.operands,Call.operands])
 rw[hE]at hr
 obtain⟨y,hy,hrel⟩:=hr
 refine⟨y::xs.toList.map ε,?_,y,_,rfl,hrel,?_⟩
 ·have e:(y::xs.toList.map ε).toArray= #[y]++xs.map ε:=by
   rw[←Array.toList_map]
   apply Array.ext'
   simp
  rw[e, ←hc fn hf hb hn (#[y]++xs.map ε) w]
  have hmr:=Zos hm (P.types.size+99) y w
  have hex:(#[ε x]++xs.map ε).extract 1 (#[ε x]++xs.map ε).size=xs.map ε:=by
   apply Array.ext'
   simp
   exact y'8 (by simp)
  have h0:(#[ε x]++xs.map ε)[0]?=some (ε x):=by
   rw[Array.getElem?_append_left (by simp)]
   rfl
  rw[hy]at h0 hex
  simp only[execOp,ho,resolve]
  rw[z'k (a:={target:= .fn (.method name) #[],args:= #[ε x]++xs.map ε}) (w':=w) rfl]
  simp only[Go.invoke,h0,hex,hy,callMethod]
  rw[z'k (a:=P) (w':=w) rfl]
  have hmr':(method (P.types.size+Made.depth) t y name).run P w= .ok (f,y) w:=hmr
  rw[z'k hmr']
 ·have: ∀l:List Operand,(∀x∈l,x∈xs.toList)→RelL w L (l.map E) (l.map ε):=by
   intro l
   induction l with
   |nil=>intro _;rfl
   |cons x l ih=>
    intro hl
    refine⟨ε x,l.map ε,rfl,hx x ?_,ih fun y hy=>hl y (z'd _ hy)⟩
    have:=hl x (z'z ..)
    simp only[ho,Op.operands,Call.operands]
    exact Array.mem_append.2 (.inr (x'O.1 this))
  exact this _ fun _ h=>h
end Go.Vc
/- Contracts: what can act. No condition. -/
namespace Go.Proofs.YthlkpnjjkgmlkaaGreat
set_option linter.unusedSimpArgs false
set_option linter.unusedVariables false
set_option maxRecDepth 20000
open Go Go.Proofs Go.Vc
attribute [local irreducible] x'v VCg VCw VCx
inductive Ag where
 |th (t:Nat)
 |fl (t:Nat) (l:Int)
def ZfF (k:Nat):List Ag:=(List.range k).map .th
def ZiO (u:Un) (m:Int) (t:Nat):List Ag:=if m=2 then[.fl t (-1)]else if m=3 then(List.range u.init.length).map fun(l:Nat)=> .fl t (l:Int)else[]
def ZeY (u:Un) (m:Int) (k:Nat):List Ag:=ZfF u.regs.length++(List.range k).flatMap (ZiO u m)
def w'q (u:Un) (m:Int):List Ag:=if x'd u=true∧1≤m∧m≤3 then ZeY u m u.regs.length else[]
theorem ZoR (u:Un) (m:Int) (k:Nat):ZeY u m (k+1)=ZeY u m k++ZiO u m k:=by simp[ZeY,y'p,y'j]
theorem ZbE (k:Nat):(ZfF k).length=k:=by simp[ZfF]
theorem Zkd {u:Un} (h:x'd u=true):u.regs.length≤4∧u.init.length≤6∧1≤u.regs.length:=by
 simp only[x'd,v'8,z'f,decide_eq_true_eq]at h
 omega
def Zgq (u:Un) (c:Cf) (m r:Int) (t:Nat):Bool:=
 decide (0≤c.pc.getD t 0)&&decide (c.pc.getD t 0<((u.code.getD t []).length:Int))&&decide (((c.regs.getD t []).length:Int)=u.regs.getD t 0)&&y'O (c.regs.getD t []) u.md&&v'T m r u.md u.init.length (c.bufs.getD t [])
def Zii (u:Un) (c:Cf):Bool:=x'd u&&decide (c.pc.length=u.regs.length)&&decide (c.regs.length=u.regs.length)&&decide (c.bufs.length=u.regs.length)&&decide (c.mem.length=u.init.length)&&y'O c.mem u.md
def w'V (u:Un) (c:Cf) (m r:Int):Bool:=Zii u c&&((List.range u.regs.length).all fun t=>Zgq u c m r t)&&v'T m r u.md u.init.length []
mutual
def Wk:D→D→Prop
 | .sl full esz rows',d=>d= .sl full esz rows'∨(full=false∧((∃f rows,d= .sl f esz rows∧WkR rows' rows)∨(rows'=[]∧d= .gs none 0)))
 | .pt row',d=> ∃row,d= .pt row∧WkL row' row
 | .agg l',d=> ∃l,d= .agg l∧WkL l' l
 | .tup l',d=> ∃l,d= .tup l∧WkL l' l
 | .ifc t x',d=> ∃x,d= .ifc t x∧Wk x' x
 | .is v,d=>d= .is v
 | .gs g n,d=>d= .gs g n
 | .os b o n cap,d=>d= .os b o n cap
 | .any,d=>d= .any
termination_by structural d=>d
def WkL:List D→List D→Prop
 |[],l=>l=[]
 |d'::ds',l=> ∃d ds,l=d::ds∧Wk d' d∧WkL ds' ds
def WkR:List (List D)→List (List D)→Prop
 |[],l=>l=[]
 |r'::rs',l=> ∃r rs,l=r::rs∧WkL r' r∧WkR rs' rs
end
theorem Wk.one {d' d:D} (h:Wk d' d) (h1:oneD d=true):oneD d'=true:=by
 cases d' with
 |sl=>rfl
 |pt=>rfl
 |agg l'=>obtain⟨l,rfl,_⟩:=h;cases h1
 |tup l'=>obtain⟨l,rfl,_⟩:=h;cases h1
 |ifc t x'=>rfl
 |is v=>obtain rfl:d= .is v:=h;exact h1
 |gs g n=>rfl
 |os=>rfl
 |any=>obtain rfl:d= .any:=h;exact h1
theorem WkL.one: ∀{ds' ds:List D},WkL ds' ds→ds.all oneD=true→ds'.all oneD=true
 |[],_,_,_=>rfl
 |d'::ds',l,h,h1=>by
  obtain⟨d,ds,rfl,h2,h3⟩:=h
  rw[y'x,z'f]at h1
  rw[y'x,h2.one h1.1,h3.one h1.2];rfl
theorem WkL.len: ∀{ds' ds:List D},WkL ds' ds→ds'.length=ds.length
 |[],_,h=>by cases h;rfl
 |d'::ds',l,h=>by
  obtain⟨d,ds,rfl,h2,h3⟩:=h
  simp[h3.len]
theorem WkR.len: ∀{ds' ds:List (List D)},WkR ds' ds→ds'.length=ds.length
 |[],_,h=>by cases h;rfl
 |d'::ds',l,h=>by
  obtain⟨d,ds,rfl,h2,h3⟩:=h
  simp[h3.len]
mutual
theorem Rel.wk {w:World} {L:Nat→Prop}: ∀(d' d:D) (v:Value),Wk d' d→Rel w L d v→Rel w L d' v
 | .sl full esz rows',d,v,h,r=>by
  rcases h with rfl|⟨rfl,⟨f,rows,rfl,hr⟩|⟨rfl,rfl⟩⟩
  ·exact r
  ·obtain⟨a,cap,h1,h2,h3,h4⟩:=r
   refine⟨a,cap,by rw[hr.len];exact h1,by rw[hr.len];exact h2,fun h=>(by cases h),?_⟩
   rcases h4 with h4|⟨b,o,h5,h6⟩
   ·subst h4
    cases rows' with
    |nil=>exact .inl rfl
    |cons r rs=>obtain⟨_,_,e,_⟩:=hr;cases e
   ·exact .inr ⟨b,o,h5,RowsAt.wk esz rows' rows b o hr h6⟩
  ·obtain⟨rfl,_⟩:=r
   exact⟨none,0,rfl,⟨z'h _,fun _=>rfl⟩,fun h=>(by cases h),.inl rfl⟩
 | .pt row',d,v,h,r=>by
  obtain⟨row,rfl,hr⟩:=h
  obtain⟨b,o,h1,h2⟩:=r
  exact⟨b,o,h1,CellsAt.wk row' row b o hr h2⟩
 | .agg l',d,v,h,r=>by
  obtain⟨l,rfl,h⟩:=h
  obtain⟨h1,cs,rfl,hr⟩:=r
  exact⟨WkL.one h h1,cs,rfl,RelL.wk l' l _ h hr⟩
 | .tup l',d,v,h,r=>by
  obtain⟨l,rfl,h⟩:=h
  obtain⟨cs,rfl,hr⟩:=r
  exact⟨cs,rfl,RelL.wk l' l _ h hr⟩
 | .ifc t x',d,v,h,r=>by
  obtain⟨x,rfl,h⟩:=h
  obtain⟨y,rfl,hr⟩:=r
  exact⟨y,rfl,Rel.wk x' x y h hr⟩
 | .is u,d,v,h,r=>by obtain rfl:d= .is u:=h;exact r
 | .gs g n,d,v,h,r=>by obtain rfl:d= .gs g n:=h;exact r
 | .os b o n cap,d,v,h,r=>by obtain rfl:d= .os b o n cap:=h;exact r
 | .any,d,v,h,r=>trivial
theorem RelL.wk {w:World} {L:Nat→Prop}: ∀(l' l:List D) (vs:List Value),WkL l' l→RelL w L l vs→RelL w L l' vs
 |[],l,vs,h,r=>by obtain rfl:l=[]:=h;exact r
 |d'::ds',l,vs,h,r=>by
  obtain⟨d,ds,rfl,h1,h2⟩:=h
  obtain⟨v,rest,rfl,r1,r2⟩:=r
  exact⟨v,rest,rfl,Rel.wk d' d v h1 r1,RelL.wk ds' ds rest h2 r2⟩
theorem CellsAt.wk {w:World} {L:Nat→Prop}: ∀(l' l:List D) (b o:Nat),WkL l' l→CellsAt w L l b o→CellsAt w L l' b o
 |[],_,_,_,_,_=>trivial
 |d'::ds',l,b,o,h,r=>by
  obtain⟨d,ds,rfl,h1,h2⟩:=h
  obtain⟨q1,⟨q2,v,q3,q4⟩,q5⟩:=r
  exact⟨q1,⟨h1.one q2,v,q3,Rel.wk d' d v h1 q4⟩,CellsAt.wk ds' ds b (o+1) h2 q5⟩
theorem RowsAt.wk {w:World} {L:Nat→Prop} (esz:Nat): ∀(l' l:List (List D)) (b o:Nat),WkR l' l→RowsAt w L esz l b o→RowsAt w L esz l' b o
 |[],_,_,_,_,_=>trivial
 |r'::rs',l,b,o,h,r=>by
  obtain⟨r0,rs,rfl,h1,h2⟩:=h
  obtain⟨q1,q2,q3⟩:=r
  exact⟨by rw[h1.len];exact q1,CellsAt.wk r' r0 b o h1 q2,RowsAt.wk esz rs' rs b (o+esz) h2 q3⟩
end
theorem Pure.wk {P:Program} {f:FuncId} {args:List D} {d' d:D} (h:Pure P f args d) (hw:Wk d' d):Pure P f args d':=
 ⟨h.1,fun w L0 vs hi hr=>(h.2 w L0 vs hi hr).mono fun e w' ⟨v,he,d0,H',⟨h1,h2⟩,h3,h4,h5⟩=>⟨v,he,d',[],⟨rfl,rfl⟩,by subst h1;subst h2;exact Rel.wk _ _ _ hw h3,by subst h2;exact h4,by subst h2;exact h5⟩⟩
def ZtL (u:Un) (c:Cf) (m:Int) (i:Nat) (x:Ins) (row:List Int) (b:List En) (p:Nat) (en:Bool):Cf:=match en with
 |true=>x'a u (setP c i ((p+1:Nat):Int)) m i x row b
 |false=>c
end Go.Proofs.YthlkpnjjkgmlkaaGreat
/- Calls of functions that take blocks of one's own, wherever they stand. No condition. -/
namespace Go.Vc
set_option linter.unusedSimpArgs false
set_option linter.unusedVariables false
open Go
inductive Pick:Heap→Heap→Heap→Prop where
 |nil {H:Heap}:Pick [] H H
 |take {x:Nat×HC} {Hp H Hr:Heap}:Pick Hp H Hr→Pick (x::Hp) (x::H) Hr
 |skip {x:Nat×HC} {Hp H Hr:Heap}:Pick Hp H Hr→Pick Hp (x::H) (x::Hr)
theorem Pick.perm {Hp H Hr:Heap} (h:Pick Hp H Hr):H.Perm (Hp++Hr):=by
 induction h with
 |nil=>exact w'Z _
 |take _ ih=>exact List.Perm.cons _ ih
 |skip _ ih=>exact(List.Perm.cons _ ih).trans List.perm_middle.symm
theorem Op1.callV {P:Program} {o:Oper} {E:Operand→D} {f:FuncId} {xf:Operand} {xs:Array Operand} {tys:Array TypeId} {args:List D} {H Hp Hr:Heap} {fr:Bool} {dv:D} {hv:Heap} {K:D→Heap→Prop}
  (ho:o.op= .call ⟨.value xf,xs,tys⟩) (hE:E xf= .is (.func (.func f) #[] #[])) (h:Fun P f args Hp fr (fun d H'=>d=dv∧H'=hv)) (ha:xs.toList.map E=args) (hp:Pick Hp H Hr)
  (hk:K dv (hv++Hr)):Op1 P o E H K:=
 Op1.callG (caps:= #[]) ho hE (by simp only[Array.toList_empty,y'Q,z'I];exact ha) h hp.perm (fun d H' ⟨h1,h2⟩=>by subst h1;subst h2;exact hk)
theorem VCo.nodup {P:Program} {n:Nat} {ops:Array Oper} {l:List Oper} {s:St} {Q:Exit→St→Prop} (h:s.heap.blocks.Nodup→VCo P n ops l s Q):VCo P n ops l s Q:=fun x a w hn hs=>h hs.inv.nodup x a w hn hs
theorem Fun.lendF {P:Program} {f:FuncId} {args args':List D} {Hp:Heap} {d0:D} (h:Fun P f args [] false (fun d H'=>d=d0∧H'=[])) (ha:FzL Hp args args'):
  Fun P f args' Hp false (fun d H'=>d=d0∧H'=[]):=by
 refine⟨h.1,fun w L0 vs hi hr=>?_⟩
 have hlet:ZeV w L0 Hp Hp (live [] L0):=⟨hi,fun b c hm=>⟨hm,fun hl=>by
  rcases hl with hl|hl
  ·exact hi.apart b (z'D.2 ⟨_,hm,rfl⟩) hl
  ·cases hl⟩,fun b _ hl=>by
  rcases hl with hl|hl
  ·exact .inl hl
  ·cases hl⟩
 have hi0:HInv w L0 []:=⟨fun b c hm=>(by cases hm),v'W,fun b hb=>(by cases hb),hi.old⟩
 refine(h.2 w L0 vs hi0 (RelL.fz hlet _ _ _ ha hr)).mono ?_
 rintro e w' ⟨v,rfl,d,H',⟨rfl,rfl⟩,h3,h4,h5⟩
 refine⟨v,rfl,d,[],⟨rfl,rfl⟩,?_,h4,⟨h5.os,h5.tape,h5.output,h5.size,fun b hb _=>h5.block b hb (by simp[Heap.blocks]),fun b hb=>by simp[Heap.blocks]at hb⟩⟩
 refine Rel.mono (Keeps.less fun b _ hl=>?_) _ _ h3
 rcases hl with(hl|hl)|hl
 ·exact .inl (.inl hl)
 ·cases hl.1
 ·simp[Heap.blocks]at hl
end Go.Vc
/- Contracts: a configuration as bytes. No condition. -/
namespace Go.Proofs.YthlkpnjjkgmlkaaGreat
set_option linter.unusedSimpArgs false
set_option linter.unusedVariables false
set_option maxRecDepth 20000
open Go Go.Proofs Go.Vc
attribute [local irreducible] x'v VCg VCw VCx
end Go.Proofs.YthlkpnjjkgmlkaaGreat
