/- Maps, whatever their entries: keys that are numbers or texts. No condition. -/
import Derived.Test.YtjlnkedmbfdofaaGreatK2
namespace Go.Vc
set_option linter.unusedSimpArgs false
set_option linter.unusedVariables false
open Go
def Zc1:TypeDesc→Bool
 | .int _=>true
 | .string=>true
 |_=>false
theorem w'I {P:Program} {t:TypeId} {kd:TypeDesc} (hu:P.underlying t=some kd) (hk:Zc1 kd=true) (e:Bool) (n:Nat) (v:Value) (w:World):(Instr.checkKey e (n+1) t v).run P w= .ok () w:=by
 unfold Instr.checkKey
 rw[z'a (run_underlying hu w)]
 cases kd<;>first|rfl|cases hk
theorem w'Z {P:Program} {t:TypeId} {kd:TypeDesc} (hu:P.underlying t=some kd) {k:Value} {es:List MapEntry} {p:Option (Nat×Value)} (hf:Instr.findNow kd k es 0=some p) (w:World):(Instr.findKey t k es).run P w= .ok p w:=by
 unfold Instr.findKey
 rw[z'a (run_underlying hu w),hf]
 rfl
theorem Zfo {P:Program} {t:TypeId} {z:Value} (hz:(P.info? t).bind (·.zero)=some z) (w:World):(zeroValue t).run P w= .ok z w:=by
 cases hi':P.info? t with
 |none=>rw[hi']at hz;cases hz
 |some i=>
  rw[hi']at hz
  unfold zeroValue
  rw[z'a (w'x hi' w),show i.zero=some z from hz]
  rfl
def w's (z:Value):Option (Nat×Value)→Value×Bool
 |some q=>(q.2,true)
 |none=>(z,false)
def v'G (ok:Bool) (r:Value×Bool):D:=match ok with|true=> .tup [ZcJ r.1,.is (.bool r.2)]|false=>ZcJ r.1
theorem Zdi {w:World} {L:Nat→Prop} {ok:Bool} {r:Value×Bool} (h: ∀cs,r.1= .agg cs→cs.toList.all Value.oneCell'=true):Rel w L (v'G ok r) (if ok then .tuple #[r.1,.bool r.2]else r.1):=by
 cases ok
 ·exact Zg7 _ _ _ h
 ·exact⟨_,rfl,_,_,rfl,Zg7 _ _ _ h,_,_,rfl,rfl,rfl⟩
theorem ZhU {P:Program} {o:Oper} {E:Operand→D} {H:Heap} {K:D→Heap→Prop} {t kt et:TypeId} {kd:TypeDesc} {m x:Operand} {ok:Bool} {b c:Nat} {es:Array MapEntry} {k z:Value} {p:Option (Nat×Value)}
  (ho:o.op= .lookup t m x ok) (hu:P.underlying t=some (.map kt et)) (hkt:P.underlying kt=some kd) (hkd:Zc1 kd=true) (hz:(P.info? et).bind (·.zero)=some z) (hm:E m= .is (.map (some b))) (hx0:E x= .is k)
  (hg:y'Z H b=some (.obj (.map es c))) (hf:Instr.findNow kd k es.toList 0=some p) (hone: ∀cs,(w's z p).1= .agg cs→cs.toList.all Value.oneCell'=true)
  (hk:K (v'G ok (w's z p)) H):Op1 P o E H K:=by
 have hmem:=y'H hg
 refine Op1.value (d:=v'G ok (w's z p)) (fun w L0 ε hi hx=>?_) hk
 have r1:=hx m (by simp[ho,Op.operands])
 have r2:=hx x (by simp[ho,Op.operands])
 rw[hm]at r1;rw[hx0]at r2
 have r1':ε m= .map (some b):=r1
 have r2':ε x=k:=r2
 have hob:w.heap[b]?=some (.map es c):=hi.rel _ _ hmem
 refine⟨if ok then .tuple #[(w's z p).1,.bool (w's z p).2]else(w's z p).1,?_,Zdi hone⟩
 have:(Instr.lookup t (.map (some b)) k ok).run P w= .ok (if ok then .tuple #[(w's z p).1,.bool (w's z p).2]else(w's z p).1) w:=by
  unfold Instr.lookup
  rw[z'a (run_underlying hu w)]
  simp only
  rw[z'a (a:=Obj.map es c) (w':=w) (by simp[getObj,Sem.run,hob])]
  simp only
  rw[z'a (a:=es) (w':=w) rfl]
  rw[z'a (w'I hkt hkd _ 9999 _ w),z'a (w'Z hkt hf w)]
  cases p with
  |none=>simp only;rw[z'a (Zfo hz w)];rfl
  |some q=>rfl
 simp only[execOp,ho,r1',r2']
 rw[z'a this]
 rfl
theorem Zmi {P:Program} {o:Oper} {E:Operand→D} {H:Heap} {K:D→Heap→Prop} {t kt et:TypeId} {kd:TypeDesc} {m x:Operand} {ok:Bool} {k z:Value}
  (ho:o.op= .lookup t m x ok) (hu:P.underlying t=some (.map kt et)) (hkt:P.underlying kt=some kd) (hkd:Zc1 kd=true) (hz:(P.info? et).bind (·.zero)=some z) (hm:E m= .is (.map none)) (hx0:E x= .is k)
  (hone: ∀cs,z= .agg cs→cs.toList.all Value.oneCell'=true) (hk:K (v'G ok (z,false)) H):Op1 P o E H K:=by
 refine Op1.value (d:=v'G ok (z,false)) (fun w L0 ε hi hx=>?_) hk
 have r1:=hx m (by simp[ho,Op.operands])
 have r2:=hx x (by simp[ho,Op.operands])
 rw[hm]at r1;rw[hx0]at r2
 have r1':ε m= .map none:=r1
 have r2':ε x=k:=r2
 refine⟨if ok then .tuple #[z,.bool false]else z,?_,Zdi hone⟩
 have hn:Instr.findNow kd k [] 0=some none:=rfl
 have:(Instr.lookup t (.map none) k ok).run P w= .ok (if ok then .tuple #[z,.bool false]else z) w:=by
  unfold Instr.lookup
  rw[z'a (run_underlying hu w)]
  simp only
  rw[z'a (a:= #[]) (w':=w) rfl]
  rw[z'a (w'I hkt hkd _ 9999 _ w),z'a (w'Z hkt hn w)]
  simp only
  rw[z'a (Zfo hz w)]
  rfl
 simp only[execOp,ho,r1',r2']
 rw[z'a this]
 rfl
def w'R (es:Array MapEntry) (c:Nat) (k v:Value):Option (Nat×Value)→Obj
 |some q=> .map (es.modify q.1 fun e=>{e with key:=k,val:=v}) c
 |none=> .map (es.push {key:=k,val:=v,born:=c}) (c+1)
theorem ZjY {P:Program} {o:Oper} {E:Operand→D} {H:Heap} {K:D→Heap→Prop} {t kt et:TypeId} {kd:TypeDesc} {m x y:Operand} {b c:Nat} {es:Array MapEntry} {k v:Value} {p:Option (Nat×Value)}
  (ho:o.op= .mapUpdate t m x y∨o.op= .insert t m x y) (hu:P.underlying t=some (.map kt et)) (hkt:P.underlying kt=some kd) (hkd:Zc1 kd=true) (hm:E m= .is (.map (some b))) (hx0:E x= .is k) (hy:Zbg (E y)=some v)
  (hg:y'Z H b=some (.obj (.map es c))) (hf:Instr.findNow kd k es.toList 0=some p) (hs: ∀q,p=some q→Instr.sameBits 10000 (((es[q.1]?).map (·.key)).getD k) k=true) (hk:K (.is undef) (hset H b (.obj (w'R es c k v p)))):Op1 P o E H K:=by
 have hmem:=y'H hg
 have hbm:b∈H.blocks:=z'o.2 ⟨_,hmem,rfl⟩
 refine⟨fun d' H'=>d'= .is undef∧H'=hset H b (.obj (w'R es c k v p)),?_,fun _ _ ⟨h1,h2⟩=>h1▸h2▸hk⟩
 intro w L0 ε hi hx
 have ops:m∈o.op.operands∧x∈o.op.operands∧y∈o.op.operands:=by rcases ho with ho|ho<;>simp[ho,Op.operands]
 have r1:=hx m ops.1
 have r2:=hx x ops.2.1
 have r3:=Zhd hy (hx y ops.2.2)
 rw[hm]at r1;rw[hx0]at r2
 have r1':ε m= .map (some b):=r1
 have r2':ε x=k:=r2
 have hob:w.heap[b]?=some (.map es c):=hi.rel _ _ hmem
 have hset': ∀ob,(setObj b ob).run P w= .ok () {w with heap:=w.heap.setIfInBounds b ob}:=fun ob=>by simp[setObj,Sem.run,hob]
 have hrun:(execOp ε o).run P w= .ok .skip {w with heap:=w.heap.setIfInBounds b (w'R es c k v p)}:=by
  have:(Instr.mapUpdate t (.map (some b)) k v).run P w= .ok () {w with heap:=w.heap.setIfInBounds b (w'R es c k v p)}:=by
   unfold Instr.mapUpdate
   rw[z'a (run_underlying hu w)]
   simp only
   rw[z'a (a:=Obj.map es c) (w':=w) (by simp[getObj,Sem.run,hob])]
   simp only
   rw[z'a (w'I hkt hkd false 9999 _ w),z'a (w'Z hkt hf w)]
   cases p with
   |none=>exact hset' _
   |some q=>
    simp only
    have hst:(Instr.keyThatStays (((es[q.1]?).map (·.key)).getD k) k).run P w= .ok k w:=by
     unfold Instr.keyThatStays
     rw[if_pos (hs q rfl)]
     rfl
    rw[z'a hst]
    exact hset' _
  rcases ho with ho|ho
  ·simp only[execOp,ho,r1',r2',r3]
   rw[z'a this]
   rfl
  ·simp only[execOp,ho,r1',r2',r3]
   rw[z'a this]
   rfl
 rw[hrun]
 have hevo:=ZbC (w:=w) hbm (w'R es c k v p) (y'1 H b (.obj (w'R es c k v p)))
 have hbl:=hi.lt hbm
 refine⟨_,_,⟨rfl,rfl⟩,rfl,?_,hevo⟩
 refine HInv.set hi hbm hevo.size (fun k hne _=>by simp[z'3 (Ne.symm hne)]) ?_
 show(w.heap.setIfInBounds b _)[b]?=_
 simp[hbl]
def v'l (es:Array MapEntry) (c:Nat):Option (Nat×Value)→Obj
 |some q=> .map (es.eraseIdxIfInBounds q.1) c
 |none=> .map es c
theorem ZjS {P:Program} {o:Oper} {E:Operand→D} {H:Heap} {K:D→Heap→Prop} {t u kt et:TypeId} {kd:TypeDesc} {m x:Operand} {b c:Nat} {es:Array MapEntry} {k:Value} {p:Option (Nat×Value)}
  (ho:o.op= .call ⟨.builtin .delete, #[m,x], #[t,u]⟩) (hu:P.underlying t=some (.map kt et)) (hkt:P.underlying kt=some kd) (hkd:Zc1 kd=true) (hm:E m= .is (.map (some b))) (hx0:E x= .is k)
  (hg:y'Z H b=some (.obj (.map es c))) (hf:Instr.findNow kd k es.toList 0=some p) (hk:K (.tup []) (hset H b (.obj (v'l es c p)))):Op1 P o E H K:=by
 have hmem:=y'H hg
 have hbm:b∈H.blocks:=z'o.2 ⟨_,hmem,rfl⟩
 refine⟨fun d' H'=>d'= .tup []∧H'=hset H b (.obj (v'l es c p)),?_,fun _ _ ⟨h1,h2⟩=>h1▸h2▸hk⟩
 intro w L0 ε hi hx
 have r1:=hx m (by simp[ho,Op.operands,Call.operands])
 have r2:=hx x (by simp[ho,Op.operands,Call.operands])
 rw[hm]at r1;rw[hx0]at r2
 have r1':ε m= .map (some b):=r1
 have r2':ε x=k:=r2
 have hob:w.heap[b]?=some (.map es c):=hi.rel _ _ hmem
 have hset': ∀ob,(setObj b ob).run P w= .ok () {w with heap:=w.heap.setIfInBounds b ob}:=fun ob=>by simp[setObj,Sem.run,hob]
 have this:(Builtin.delete_ #[t,u] o.type #[.map (some b),k]).run P w= .ok (.tuple #[]) {w with heap:=w.heap.setIfInBounds b (v'l es c p)}:=by
  unfold Builtin.delete_
  simp only[y'U,y'Q,y'6]
  rw[z'a (run_underlying hu w)]
  simp only
  rw[z'a (a:=Obj.map es c) (w':=w) (by simp[getObj,Sem.run,hob])]
  simp only
  rw[z'a (w'I hkt hkd _ 9999 _ w),z'a (w'Z hkt hf w)]
  cases p with
  |none=>exact z'a (hset' _)
  |some q=>exact z'a (hset' _)
 have hrun:(execOp ε o).run P w= .ok (.value (.tuple #[])) {w with heap:=w.heap.setIfInBounds b (v'l es c p)}:=by
  simp only[execOp,ho,resolve,invoke,builtin]
  simp[r1',r2']
  rw[this]
  rfl
 rw[hrun]
 have hevo:=ZbC (w:=w) hbm (v'l es c p) (y'1 H b (.obj (v'l es c p)))
 have hbl:=hi.lt hbm
 refine⟨_,_,⟨rfl,rfl⟩,⟨_,rfl,rfl⟩,?_,hevo⟩
 refine HInv.set hi hbm hevo.size (fun k hne _=>by simp[z'3 (Ne.symm hne)]) ?_
 show(w.heap.setIfInBounds b _)[b]?=_
 simp[hbl]
theorem Zng {P:Program} {o:Oper} {E:Operand→D} {H:Heap} {K:D→Heap→Prop} {t kt et:TypeId} {m:Operand} {b c:Nat} {es:Array MapEntry}
  (ho:o.op= .call ⟨.builtin .len, #[m], #[t]⟩) (hu:P.underlying t=some (.map kt et)) (hm:E m= .is (.map (some b))) (hg:y'Z H b=some (.obj (.map es c))) (hk:K (.is (.int .i64 es.size)) H):Op1 P o E H K:=by
 have hmem:=y'H hg
 refine Op1.value (d:= .is (.int .i64 es.size)) (fun w L0 ε hi hx=>?_) hk
 have r1:=hx m (by simp[ho,Op.operands,Call.operands])
 rw[hm]at r1
 have r1':ε m= .map (some b):=r1
 have hob:w.heap[b]?=some (.map es c):=hi.rel _ _ hmem
 refine⟨.int .i64 es.size,?_,rfl⟩
 have this:(Builtin.len_ #[t] o.type #[.map (some b)]).run P w= .ok (.int .i64 es.size) w:=by
  unfold Builtin.len_
  simp only[y'U,y'Q]
  rw[z'a (run_underlying hu w)]
  simp only
  rw[z'a (a:=Obj.map es c) (w':=w) (by simp[getObj,Sem.run,hob])]
  rfl
 simp only[execOp,ho,resolve,invoke,builtin]
 simp[r1']
 rw[this]
 rfl
end Go.Vc
