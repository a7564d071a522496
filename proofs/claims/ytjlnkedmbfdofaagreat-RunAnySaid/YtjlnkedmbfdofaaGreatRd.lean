/- Contracts: what an instruction has, whether it fits. No condition. -/
import Derived.Test.YtjlnkedmbfdofaaGreatYo
import Derived.Test.YtjlnkedmbfdofaaGreatYh
import Derived.Test.YtjlnkedmbfdofaaGreatXe
import Derived.Test.YtjlnkedmbfdofaaGreatYi
import Derived.Test.YtjlnkedmbfdofaaGreatWb
import Derived.Test.YtjlnkedmbfdofaaGreatWa
import Derived.Test.YtjlnkedmbfdofaaGreatZp
import Derived.Test.YtjlnkedmbfdofaaGreatZr
namespace Go.Proofs.YtjlnkedmbfdofaaGreat
set_option linter.unusedSimpArgs false
set_option linter.unusedVariables false
set_option maxRecDepth 20000
open Go Go.Proofs Go.Vc
attribute [local irreducible] z'Z VCg VCw VCx
end Go.Proofs.YtjlnkedmbfdofaaGreat
/- Calls through interfaces. No condition. -/
namespace Go.Vc
set_option linter.unusedSimpArgs false
set_option linter.unusedVariables false
open Go
def ZfF (P:Program) (t:TypeId) (name:String):Option FuncId:=
 match P.info? t,P.underlying t with
 |some i,some d=>(match d with
  | .pointer _=>none
  |_=>match i.methods.find? (·.name == name)with
   |some m=>(match m.path.toList,m.func with
    |[],some (f,false)=>some f
    |_,_=>none)
   |none=>none)
 |_,_=>none
theorem ZgU {P:Program} {t:TypeId} {i:TypeInfo} (h:P.info? t=some i) (w:World):(typeInfo t).run P w= .ok i w:=by
 unfold typeInfo
 rw[z'a (a:=P) (w':=w) rfl]
 simp only[h]
 rfl
theorem ZiT {P:Program} {t:TypeId} {name:String} {f:FuncId} (h:ZfF P t name=some f) (n:Nat) (v:Value) (w:World):(method (n+1) t v name).run P w= .ok (f,v) w:=by
 unfold ZfF at h
 split at h
 ·rename_i i d hi hd
  split at h
  ·cases h
  rename_i hnp
  split at h
  ·rename_i m hm
   split at h
   ·rename_i f' hp hf
    cases h
    unfold method
    rw[z'a (ZgU hi w)]
    simp only[hm]
    rw[hp]
    simp only[follow]
    rw[z'a (a:=(t,Place.val v)) (w':=w) rfl]
    simp only[hf]
    unfold receiverAt
    refine(z'a (a:=v) (w':=w) ?_).trans rfl
    rw[z'a (run_underlying hd w)]
    split
    all_goals first|rfl|(exfalso;simp_all;done)|skip
   ·cases h
  ·cases h
 ·cases h
theorem Op1.enterG {P:Program} {o:Oper} {E:Operand→D} {f:FuncId} {args:List D} {H:Heap} {fr:Bool} {Φ:D→Heap→Prop} {K:D→Heap→Prop} (h:Fun P f args [] fr Φ)
  (hrun: ∀(w:World) (L:Nat→Prop) (ε:Operand→Value),(∀fn,P.funcs[f]?=some fn→fn.body.isSome=true→(fn.name == "runtime.NumGoroutine")=false→ ∀(xs:Array Value) (w:World),(callFunc f xs).run P w= .ok (.enter f xs) w)→
   (∀y,y∈o.op.operands→Rel w L (E y) (ε y))→ ∃vs:List Value,(execOp ε o).run P w= .ok (.enter f vs.toArray) w∧RelL w L args vs)
  (hk: ∀d H',Φ d H'→K d (H'++H)):Op1 P o E H K:=by
 refine⟨fun d H'=> ∃Hp',Φ d Hp'∧H'=Hp'++H,?_,fun d H' ⟨Hp',h1,h2⟩=>h2▸hk d Hp' h1⟩
 intro w L0 ε hi hx
 obtain⟨⟨fn,hf,hbody,hname⟩,h⟩:=h
 obtain⟨vs,hr,hargs⟩:=hrun w _ ε (fun fn hf hb hn xs w=>w'w hf hb hn xs w) hx
 rw[hr]
 have same: ∀b,live [] (live H L0) b↔live H L0 b:=fun b=>by simp[live,Heap.blocks]
 have hlt: ∀b,b∈H.blocks→b<w.heap.size:=fun b hb=>hi.lt hb
 have hi1:HInv w (live H L0) []:=
  {rel:=fun b c hm=>by cases hm
   nodup:=w'l
   apart:=fun b hb=>by cases hb
   old:=fun b hl=>by
    rcases hl with hl|hl
    ·exact hi.old b hl
    ·exact hlt b hl}
 have hk1:Keeps w (live H L0) w (live [] (live H L0)):=Keeps.less fun b _ hl=>(same b).1 hl
 refine(h w (live H L0) _ hi1 (RelL.mono hk1 _ _ hargs)).mono ?_
 rintro e w' ⟨v,rfl,d,Hp',hΦ,hrel,hi',he⟩
 have hmem': ∀b,b∈(Hp'++H).blocks↔b∈Hp'.blocks∨b∈H.blocks:=fun b=>by simp[Heap.blocks]
 have hevo:Evo w H w' (Hp'++H):=
  ⟨he.os,he.tape,he.output,he.size,fun b hb hn=>he.block b hb (fun h=>by cases h),fun b hb=>by
   rcases(hmem' b).1 hb with h|h
   ·exact(he.fresh b h).imp (fun h=>by cases h) id
   ·exact .inl h⟩
 refine⟨v,rfl,d,Hp'++H,⟨Hp',hΦ,rfl⟩,?_,?_,hevo⟩
 ·refine Rel.mono (Keeps.less fun b _ hl=>?_) _ _ hrel
  rcases hl with hl|hl
  ·exact .inl (.inl (.inl hl))
  ·rcases(hmem' b).1 hl with hl|hl
   ·exact .inr hl
   ·exact .inl (.inl (.inr hl))
 ·exact
   {rel:=fun b c hm=>by
     rcases y'j.1 hm with hm|hm
     ·refine(hi'.rel b c hm).mono (Keeps.less fun b _ hl=>?_) rfl
      rcases hl with hl|hl
      ·exact .inl (.inl hl)
      ·rcases(hmem' b).1 hl with hl|hl
       ·exact .inr hl
       ·exact .inl (.inr hl)
     ·have hbr:b∈H.blocks:=z'o.2 ⟨(b,c),hm,rfl⟩
      exact(hi.rel b c hm).mono hevo.keeps (he.block b (hlt b hbr) (fun h=>by cases h))
    nodup:=by
     simp only[Heap.blocks,z'y]
     refine z'6.2 ⟨hi'.nodup,hi.nodup,fun a ha b hb hab=>?_⟩
     subst hab
     rcases he.fresh a ha with h|h
     ·cases h
     ·have:=hlt a hb;omega
    apart:=fun b hb hl=>by
     rcases(hmem' b).1 hb with h|h
     ·exact hi'.apart b h (.inl hl)
     ·exact hi.apart b h hl
    old:=fun b hl=>z'm (hi.old b hl) he.size}
theorem Op1.invoke {P:Program} {o:Oper} {E:Operand→D} {f:FuncId} {x:Operand} {name:String} {xs:Array Operand} {tys:Array TypeId} {t:TypeId} {dv:D} {args:List D} {H:Heap} {fr:Bool} {Φ:D→Heap→Prop} {K:D→Heap→Prop}
  (ho:o.op= .call ⟨.invoke x name,xs,tys⟩) (hE:E x= .ifc t dv) (hm:ZfF P t name=some f) (h:Fun P f args [] fr Φ) (ha:dv::xs.toList.map E=args) (hk: ∀d H',Φ d H'→K d (H'++H)):Op1 P o E H K:=by
 subst ha
 have hF:=h.1
 obtain⟨fn,hf,hb,hn⟩:=hF
 refine Op1.enterG h (fun w L ε hc hx=>?_) hk
 have hr:=hx x (by simp[ho,Op.operands,Call.operands])
 rw[hE]at hr
 obtain⟨y,hy,hrel⟩:=hr
 refine⟨y::xs.toList.map ε,?_,y,_,rfl,hrel,?_⟩
 ·have e:(y::xs.toList.map ε).toArray= #[y]++xs.map ε:=by
   rw[←Array.toList_map]
   apply Array.ext'
   simp
  rw[e, ←hc fn hf hb hn (#[y]++xs.map ε) w]
  have hmr:=ZiT hm (P.types.size+99) y w
  have hex:(#[ε x]++xs.map ε).extract 1 (#[ε x]++xs.map ε).size=xs.map ε:=by
   apply Array.ext'
   simp
   exact z'O (by simp)
  have h0:(#[ε x]++xs.map ε)[0]?=some (ε x):=by
   rw[Array.getElem?_append_left (by simp)]
   rfl
  rw[hy]at h0 hex
  simp only[execOp,ho,resolve]
  rw[z'a (a:={target:= .fn (.method name) #[],args:= #[ε x]++xs.map ε}) (w':=w) rfl]
  simp only[Go.invoke,h0,hex,hy,callMethod]
  rw[z'a (a:=P) (w':=w) rfl]
  have hmr':(method (P.types.size+Made.depth) t y name).run P w= .ok (f,y) w:=hmr
  rw[z'a hmr']
 ·have: ∀l:List Operand,(∀x∈l,x∈xs.toList)→RelL w L (l.map E) (l.map ε):=by
   intro l
   induction l with
   |nil=>intro _;rfl
   |cons x l ih=>
    intro hl
    refine⟨ε x,l.map ε,rfl,hx x ?_,ih fun y hy=>hl y (z'n _ hy)⟩
    have:=hl x (z'k ..)
    simp only[ho,Op.operands,Call.operands]
    exact Array.mem_append.2 (.inr (y'A.1 this))
  exact this _ fun _ h=>h
end Go.Vc
/- Contracts: what can act. No condition. -/
namespace Go.Proofs.YtjlnkedmbfdofaaGreat
set_option linter.unusedSimpArgs false
set_option linter.unusedVariables false
set_option maxRecDepth 20000
open Go Go.Proofs Go.Vc
attribute [local irreducible] z'Z VCg VCw VCx
inductive Ag where
 |th (t:Nat)
 |fl (t:Nat) (l:Int)
def ZoA (k:Nat):List Ag:=(List.range k).map .th
def Zon (u:Un) (m:Int) (t:Nat):List Ag:=if m=2 then[.fl t (-1)]else if m=3 then(List.range u.init.length).map fun(l:Nat)=> .fl t (l:Int)else[]
def Zoi (u:Un) (m:Int) (k:Nat):List Ag:=ZoA u.regs.length++(List.range k).flatMap (Zon u m)
def Zoh (u:Un) (m:Int):List Ag:=if Zca u=true∧1≤m∧m≤3 then Zoi u m u.regs.length else[]
def Zog (u:Un) (c:Cf) (m r:Int):Ag→Cf
 | .th t=>Zdn u c m r (t:Nat)
 | .fl t l=>Zcg c m (t:Nat) l
section
variable {u : Un} {c : Cf} {m r : Int}
end
def Zov (u:Un) (m a:Int):Option Ag:=match decide (0≤a)with|true=>(Zoh u m)[a.toNat]?|false=>none
def actM (u:Un) (c:Cf) (m r a:Int):Cf:=match Zov u m a with|some ag=>Zog u c m r ag|none=>c
section
variable {u : Un} {c : Cf} {m r : Int}
end
section
variable {u : Un} {c : Cf} {m r : Int}
end
def Off (i:Nat) (c d:Cf):Prop:= ∀k,k≠i→d.pc[k]?=c.pc[k]?∧d.regs[k]?=c.regs[k]?∧d.bufs[k]?=c.bufs[k]?
section
variable {i : Nat} {c d : Cf}
theorem Off.refl:Off i c c:=fun k _=>⟨rfl,rfl,rfl⟩
theorem Off.P (h:Off i c d) (v:Int):Off i c (setP d i v):=fun k hk=>⟨(y'M (Ne.symm hk)).trans (h k hk).1,(h k hk).2⟩
theorem Off.R (h:Off i c d) (v:List Int):Off i c (ZiX d i v):=fun k hk=>⟨(h k hk).1,(y'M (Ne.symm hk)).trans (h k hk).2.1,(h k hk).2.2⟩
theorem Off.M (h:Off i c d) (j:Nat) (v:Int):Off i c (ZaH d j v):=h
theorem Off.B (h:Off i c d) (v:List En):Off i c (ZcI d i v):=fun k hk=>⟨(h k hk).1,(h k hk).2.1,(y'M (Ne.symm hk)).trans (h k hk).2.2⟩
theorem Off.X (h:Off i c d) (u:Un) (m:Int) (x:Ins) (row:List Int) (b:List En):Off i c (Zbd u d m i x row b):=by
 unfold Zbd Za1
 split
 ·exact h.P _
 split
 ·split
  ·exact h.P _
  ·exact h
 split
 ·exact h.R _
 split
 ·exact h.R _
 split
 ·split
  ·exact h.M _ _
  ·exact h.B _
 split
 ·split
  ·exact(h.R _).M _ _
  ·exact h.R _
 split
 ·exact(h.R _).M _ _
 split
 ·exact(h.R _).M _ _
 ·exact h
end
section
variable {u : Un} {c : Cf} {m r : Int}
theorem Rt.sc (h:Rt u c 1 r) {b:List En} (hb:b∈c.bufs):b=[]:=by
 obtain⟨i,hi⟩:=y'K hb
 exact(h.rb hi).p1 rfl
end
theorem Rt.actM {u:Un} {c:Cf} {m r:Int} (h:Rt u c m r) (a:Int):Rt u (actM u c m r a) m r:=by
 unfold Go.Proofs.YtjlnkedmbfdofaaGreat.actM
 split
 ·rename_i ag _
  cases ag with
  |th t=>exact h.act (t:Nat)
  |fl t l=>exact h.flush (t:Nat) l
 ·exact h
end Go.Proofs.YtjlnkedmbfdofaaGreat
