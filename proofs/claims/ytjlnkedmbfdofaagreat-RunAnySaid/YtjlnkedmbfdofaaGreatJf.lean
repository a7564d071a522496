/- errors.Is, and what is called through an error. No condition. -/
import Derived.Test.YtjlnkedmbfdofaaGreatJb
import Derived.Stop.Asserts
import Derived.WalkKit
import Derived.Test.YtjlnkedmbfdofaaGreatJc
namespace Go.Vc
set_option linter.unusedSimpArgs false
set_option linter.unusedVariables false
open Go
theorem Op1.enterJ {P:Program} {o:Oper} {E:Operand→D} {f:FuncId} {args:List D} {H Hp Hr:Heap} {fr:Bool} {Φ:D→Heap→Prop} {K:D→Heap→Prop} (h:Fun P f args Hp fr Φ)
  (hrun: ∀(w:World) (L:Nat→Prop) (ε:Operand→Value),(∀y,y∈o.op.operands→Rel w L (E y) (ε y))→ ∃vs:List Value,(execOp ε o).run P w= .ok (.enter f vs.toArray) w∧RelL w L args vs)
  (hp:H.Perm (Hp++Hr)) (hk: ∀d H',Φ d H'→K d (H'++Hr)):Op1 P o E H K:=by
 refine Op1.perm hp ?_
 refine⟨fun d H'=> ∃Hp',Φ d Hp'∧H'=Hp'++Hr,?_,fun d H' ⟨Hp',h1,h2⟩=>h2▸hk d Hp' h1⟩
 intro w L0 ε hi hx
 obtain⟨⟨fn,hf,hbody,hname⟩,h⟩:=h
 obtain⟨vs,hr,hargs⟩:=hrun w _ ε hx
 rw[hr]
 have hmem: ∀b,b∈(Hp++Hr).blocks↔b∈Hp.blocks∨b∈Hr.blocks:=fun b=>by simp[Heap.blocks]
 let L1:Nat→Prop:=fun b=>L0 b∨b∈Hr.blocks
 have hlt: ∀b,b∈(Hp++Hr).blocks→b<w.heap.size:=fun b hb=>hi.lt hb
 have hnd:Hp.blocks.Nodup∧Hr.blocks.Nodup∧ ∀b,b∈Hp.blocks→b∉Hr.blocks:=by
  have:=hi.nodup
  simp only[Heap.blocks,z'y]at this
  obtain⟨h1,h2,h3⟩:=z'6.1 this
  exact⟨h1,h2,fun b hp hr=>h3 b hp b hr rfl⟩
 have same: ∀b,live Hp L1 b↔live (Hp++Hr) L0 b:=fun b=>by
  simp only[live,L1,hmem]
  constructor
  ·rintro((h|h)|h)
   ·exact .inl h
   ·exact .inr (.inr h)
   ·exact .inr (.inl h)
  ·rintro(h|h|h)
   ·exact .inl (.inl h)
   ·exact .inr h
   ·exact .inl (.inr h)
 have hk1:Keeps w (live (Hp++Hr) L0) w (live Hp L1):=Keeps.less fun b _ hl=>(same b).1 hl
 have hi1:HInv w L1 Hp:=
  {rel:=fun b c hm=>(hi.rel b c (z'5 _ hm)).mono hk1 rfl
   nodup:=hnd.1
   apart:=fun b hb hl=>by
    rcases hl with hl|hl
    ·exact hi.apart b ((hmem b).2 (.inl hb)) hl
    ·exact hnd.2.2 b hb hl
   old:=fun b hl=>by
    rcases hl with hl|hl
    ·exact hi.old b hl
    ·exact hlt b ((hmem b).2 (.inr hl))}
 refine(h w L1 _ hi1 (RelL.mono hk1 _ _ hargs)).mono ?_
 rintro e w' ⟨v,rfl,d,Hp',hΦ,hrel,hi',he⟩
 have hmem': ∀b,b∈(Hp'++Hr).blocks↔b∈Hp'.blocks∨b∈Hr.blocks:=fun b=>by simp[Heap.blocks]
 have hevo:Evo w (Hp++Hr) w' (Hp'++Hr):=
  ⟨he.os,he.tape,he.output,he.size,fun b hb hn=>he.block b hb (fun h=>hn ((hmem b).2 (.inl h))),fun b hb=>by
   rcases(hmem' b).1 hb with h|h
   ·exact(he.fresh b h).imp (fun h=>(hmem b).2 (.inl h)) id
   ·exact .inl ((hmem b).2 (.inr h))⟩
 refine⟨v,rfl,d,Hp'++Hr,⟨Hp',hΦ,rfl⟩,?_,?_,hevo⟩
 ·refine Rel.mono (Keeps.less fun b _ hl=>?_) _ _ hrel
  rcases hl with hl|hl
  ·exact .inl (.inl (.inl hl))
  ·rcases(hmem' b).1 hl with hl|hl
   ·exact .inr hl
   ·exact .inl (.inl (.inr hl))
 ·exact
   {rel:=fun b c hm=>by
     rcases y'j.1 hm with hm|hm
     ·refine(hi'.rel b c hm).mono (Keeps.less fun b _ hl=>?_) rfl
      rcases hl with hl|hl
      ·exact .inl (.inl hl)
      ·rcases(hmem' b).1 hl with hl|hl
       ·exact .inr hl
       ·exact .inl (.inr hl)
     ·have hbr:b∈Hr.blocks:=z'o.2 ⟨(b,c),hm,rfl⟩
      exact(hi.rel b c (y's _ hm)).mono hevo.keeps (he.block b (hlt b ((hmem b).2 (.inr hbr))) (fun h=>hnd.2.2 b h hbr))
    nodup:=by
     simp only[Heap.blocks,z'y]
     refine z'6.2 ⟨hi'.nodup,hnd.2.1,fun a ha b hb hab=>?_⟩
     subst hab
     rcases he.fresh a ha with h|h
     ·exact hnd.2.2 a h hb
     ·have:=hlt a ((hmem a).2 (.inr hb));omega
    apart:=fun b hb hl=>by
     rcases(hmem' b).1 hb with h|h
     ·exact hi'.apart b h (.inl hl)
     ·exact hi.apart b ((hmem b).2 (.inr h)) hl
    old:=fun b hl=>z'm (hi.old b hl) he.size}
theorem Zej {P:Program} {o:Oper} {E:Operand→D} {H:Heap} {K:D→Heap→Prop} {x:Operand} {xT t u:TypeId} {d:D} {q:Bool} (ho:o.op= .typeAssert x xT t true) (hE:E x= .ifc u d)
  (hr: ∀(v:Value) (w:World),(Instr.typeAssert (.iface u v) xT t true).run P w= .ok (.tuple #[bif q then .iface u v else .nilIface,.bool q]) w) (hk:K (.tup [bif q then .ifc u d else .is .nilIface,.is (.bool q)]) H):Op1 P o E H K:=by
 refine Op1.value (d:= .tup [bif q then .ifc u d else .is .nilIface,.is (.bool q)]) (fun w L0 ε hi hx=>?_) hk
 have r1:=hx x (by simp[ho,Op.operands])
 rw[hE]at r1
 obtain⟨v,hv,hr1⟩:=r1
 refine⟨_,?_,_,rfl,bif q then .iface u v else .nilIface,_,rfl,?_,_,_,rfl,rfl,rfl⟩
 ·simp only[execOp,ho,hv]
  exact(z'a (hr v w)).trans rfl
 ·cases q
  ·rfl
  ·exact⟨v,rfl,hr1⟩
theorem Znd {P:Program} {o:Oper} {E:Operand→D} {H:Heap} {K:D→Heap→Prop} {f:FuncId} {x:Operand} {ts:Array TypeId} {u:TypeId} {d dr:D} {vr:Value} (ho:o.op= .call ⟨.value (.func f), #[x],ts⟩) (hE:E x= .ifc u d) (hF:E (.func f)= .is (.func (.func f) #[] #[]))
  (hr: ∀(v:Value) (w:World),(callFunc f #[.iface u v]).run P w= .ok (.value vr) w) (hd: ∀(w:World) (L:Nat→Prop),Rel w L dr vr) (hk:K dr H):Op1 P o E H K:=by
 refine Op1.value (d:=dr) (fun w L0 ε hi hx=>?_) hk
 have r1:=hx x (by simp[ho,Op.operands,Call.operands])
 rw[hE]at r1
 obtain⟨v,hv,hr1⟩:=r1
 have r2:=hx (.func f) (by simp[ho,Op.operands,Call.operands])
 rw[hF]at r2
 have r2:ε (.func f)= .func (.func f) #[] #[]:=r2
 refine⟨vr,?_,hd w _⟩
 have:=hr v w
 simp[execOp,ho,resolve,Deferred.ofValue,r2,hv,invoke,go_sem]
 exact this
theorem Zne {P:Program} {o:Oper} {E:Operand→D} {H:Heap} {K:D→Heap→Prop} {x:Operand} {nm:String} {ts:Array TypeId} {dx dr:D} {vx vr:Value} (ho:o.op= .call ⟨.invoke x nm, #[],ts⟩) (hE:E x=dx) (hx0: ∀(w:World) (L:Nat→Prop) (v:Value),Rel w L dx v→v=vx)
  (hr: ∀w:World,(callMethod vx nm #[]).run P w= .ok (.value vr) w) (hd: ∀(w:World) (L:Nat→Prop),Rel w L dr vr) (hk:K dr H):Op1 P o E H K:=by
 refine Op1.value (d:=dr) (fun w L0 ε hi hx=>?_) hk
 have r1:=hx x (by simp[ho,Op.operands,Call.operands])
 rw[hE]at r1
 have hv:=hx0 _ _ _ r1
 refine⟨vr,?_,hd w _⟩
 have:=hr w
 simp[execOp,ho,resolve,hv,invoke,go_sem]
 exact this
theorem ZjU {P:Program} {o:Oper} {E:Operand→D} {H Hp Hr:Heap} {K:D→Heap→Prop} {Φ:D→Heap→Prop} {fr:Bool} {x:Operand} {nm:String} {ts:Array TypeId} {u f:Nat} {b:Nat} (ho:o.op= .call ⟨.invoke x nm, #[],ts⟩) (hE:E x= .ifc u (.is (.pointer (some ⟨b,0,none⟩))))
  (hr: ∀(a:Addr) (w:World),(callMethod (.iface u (.pointer (some a))) nm #[]).run P w= .ok (.enter f #[.pointer (some a)]) w) (h:Fun P f [.is (.pointer (some ⟨b,0,none⟩))] Hp fr Φ) (hp:H.Perm (Hp++Hr)) (hk: ∀d H',Φ d H'→K d (H'++Hr)):Op1 P o E H K:=by
 refine Op1.enterJ h (fun w L ε hx=>⟨[.pointer (some ⟨b,0,none⟩)],?_,⟨_,_,rfl,rfl,rfl⟩⟩) hp hk
 have r1:=hx x (by simp[ho,Op.operands,Call.operands])
 rw[hE]at r1
 obtain⟨v,hv,hr1⟩:=r1
 have hr1:v= .pointer (some ⟨b,0,none⟩):=hr1
 subst hr1
 have:=hr ⟨b,0,none⟩ w
 generalize Value.iface u (.pointer (some ⟨b,0,none⟩))=vx at hv this
 simp[execOp,ho,resolve,hv,invoke,go_sem]
 exact this
end Go.Vc
/- Contracts: errors, and errors.Is. No condition. -/
namespace Go.Proofs.YtjlnkedmbfdofaaGreat
set_option linter.unusedSimpArgs false
set_option linter.unusedVariables false
set_option maxRecDepth 20000
open Go Go.Proofs Go.Vc
attribute [local irreducible] z'Z VCg VCw VCx
abbrev ptE (b:Nat):D:= .is (.pointer (some ⟨b,0,none⟩))
abbrev Za6 (s:ByteArray) (n a:Int):List D:=[sD s,iD n,iD a]
abbrev y'9 (b:Nat) (s:ByteArray) (n a:Int):Heap:=[(b,.cells 89 3 (Za6 s n a))]
theorem Znu (b:Nat) (s:ByteArray) (n a:Int):Fun Tryz.prog 294 [ptE b] (y'9 b s n a) false (fun d H'=>d= .ifc 47 (iD n)∧H'=y'9 b s n a):=by
 refine Fun.of T [.tmp 2] Tryz.func294 rfl Tryz.ntmps294 Tryz.results294 rfl (by kernel_rfl) ?_
 repeat' first|refine vs T rfl fun K hK=>?_;(try simp (disch:=omega) only[go_sem,Nat.reduceBEq,Za6]);(first|refine hK _ _ ?_;clear hK K|refine⟨?_,hK _ _ ?_⟩<;>clear hK K)|refine st rfl ?_|refine nl ?_
 ·exact⟨_,Tryz.underlying47,fun ms h=>by cases h⟩
 refine x'7 T (z'V _) ?_
 exact⟨rfl,rfl⟩
theorem ZkH (v:Value) (w:World):(Extern.ReflectliteType.typeOf #[.iface 47 v]).run Tryz.prog w= .ok (.iface 137 (.agg #[typeHandle Tryz.prog 47])) w:=by kernel_rfl
theorem ZgB (w:World):((Extern.ReflectliteType.method fun t=>do Extern.Rtype.noPackHeld "Comparable" t;pure (.bool (←typeInfo t).comparable)) #[.agg #[typeHandle Tryz.prog 47]]).run Tryz.prog w= .ok (.bool true) w:=by kernel_rfl
theorem Zie (v:Value) (w:World):(callFunc 24 #[.iface 47 v]).run Tryz.prog w= .ok (.value (.iface 137 (.agg #[typeHandle Tryz.prog 47]))) w:=by
 rw[@run_callFunc_extern Tryz.prog 24 _ Extern.ReflectliteType.typeOf Tryz.func24 (by kernel_rfl) (by kernel_rfl) (by kernel_rfl) (by kernel_rfl),ZkH v w]
 rfl
theorem Zeq (w:World):(callMethod (.iface 137 (.agg #[typeHandle Tryz.prog 47])) "Comparable" #[]).run Tryz.prog w= .ok (.value (.bool true)) w:=by
 have h:= @run_callFunc_extern Tryz.prog 298 _ (Extern.ReflectliteType.method fun t=>do Extern.Rtype.noPackHeld "Comparable" t;pure (.bool (←typeInfo t).comparable)) Tryz.func298 (by kernel_rfl) (by kernel_rfl) (by kernel_rfl) (by kernel_rfl) #[.agg #[typeHandle Tryz.prog 47]] w
 have hm: ∀v:Value,(Go.method (Tryz.prog.types.size+Made.depth) 137 v "Comparable").run Tryz.prog w= .ok (298,v) w:=fun v=>by kernel_rfl
 unfold callMethod
 simp only
 refine(z'a (a:=Tryz.prog) (w':=w) rfl).trans ?_
 refine(z'a (hm _)).trans ?_
 refine Eq.trans h ?_
 rw[ZgB w]
 rfl
theorem Zl7:oneD (.is (typeHandle Tryz.prog 47))=true:=by kernel_rfl
theorem Zif (a:Addr) (w:World):(callMethod (.iface 87 (.pointer (some a))) "Unwrap" #[]).run Tryz.prog w= .ok (.enter 294 #[.pointer (some a)]) w:=by kernel_rfl
theorem Zjc (a:Addr) (w:World):(callMethod (.iface 87 (.pointer (some a))) "Error" #[]).run Tryz.prog w= .ok (.enter 293 #[.pointer (some a)]) w:=by kernel_rfl
theorem ZnU (v:Value) (w:World):(Instr.typeAssert (.iface 87 v) 42 139 true).run Tryz.prog w= .ok (.tuple #[.nilIface,.bool false]) w:=run_typeAssert_lacksB Tryz.underlying139 (by kernel_rfl) (by kernel_rfl) v _ w
theorem ZmQ (v:Value) (w:World):(Instr.typeAssert (.iface 87 v) 42 142 true).run Tryz.prog w= .ok (.tuple #[.iface 87 v,.bool true]) w:=run_typeAssert_hasB Tryz.underlying142 (by kernel_rfl) v _ w
theorem ZnV (v:Value) (w:World):(Instr.typeAssert (.iface 47 v) 42 139 true).run Tryz.prog w= .ok (.tuple #[.nilIface,.bool false]) w:=run_typeAssert_lacksB Tryz.underlying139 (by kernel_rfl) (by kernel_rfl) v _ w
theorem ZnW (v:Value) (w:World):(Instr.typeAssert (.iface 47 v) 42 142 true).run Tryz.prog w= .ok (.tuple #[.nilIface,.bool false]) w:=run_typeAssert_lacksB Tryz.underlying142 (by kernel_rfl) (by kernel_rfl) v _ w
theorem Zm5 (v:Value) (w:World):(Instr.typeAssert (.iface 47 v) 42 144 true).run Tryz.prog w= .ok (.tuple #[.nilIface,.bool false]) w:=run_typeAssert_lacksB Tryz.underlying144 (by kernel_rfl) (by kernel_rfl) v _ w
end Go.Proofs.YtjlnkedmbfdofaaGreat
