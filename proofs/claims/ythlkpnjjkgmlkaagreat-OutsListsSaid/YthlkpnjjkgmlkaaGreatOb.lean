/- Maps, whatever their entries: keys that are numbers or texts. No condition. -/
import Derived.Test.YthlkpnjjkgmlkaaGreatK2
import Derived.Maps.RangeRun
namespace Go.Vc
set_option linter.unusedSimpArgs false
set_option linter.unusedVariables false
open Go
def Zf3:TypeDesc→Bool
 | .int _=>true
 | .string=>true
 |_=>false
theorem Zam {P:Program} {t:TypeId} {kd:TypeDesc} (hu:P.underlying t=some kd) (hk:Zf3 kd=true) (e:Bool) (n:Nat) (v:Value) (w:World):(Instr.checkKey e (n+1) t v).run P w= .ok () w:=by
 unfold Instr.checkKey
 rw[z'e (run_underlying hu w)]
 cases kd<;>first|rfl|cases hk
theorem ZaK {P:Program} {t:TypeId} {kd:TypeDesc} (hu:P.underlying t=some kd) {k:Value} {es:List MapEntry} {p:Option (Nat×Value)} (hf:Instr.findNow kd k es 0=some p) (w:World):(Instr.findKey t k es).run P w= .ok p w:=by
 unfold Instr.findKey
 rw[z'e (run_underlying hu w),hf]
 rfl
theorem Zjm {P:Program} {t:TypeId} {z:Value} (hz:(P.info? t).bind (·.zero)=some z) (w:World):(zeroValue t).run P w= .ok z w:=by
 cases hi':P.info? t with
 |none=>rw[hi']at hz;cases hz
 |some i=>
  rw[hi']at hz
  unfold zeroValue
  rw[z'e (v'F hi' w),show i.zero=some z from hz]
  rfl
def v'N (z:Value):Option (Nat×Value)→Value×Bool
 |some q=>(q.2,true)
 |none=>(z,false)
def ZbR (ok:Bool) (r:Value×Bool):D:=match ok with|true=> .tup [ZaY r.1,.is (.bool r.2)]|false=>ZaY r.1
theorem Zgq {w:World} {L:Nat→Prop} {ok:Bool} {r:Value×Bool} (h: ∀cs,r.1= .agg cs→cs.toList.all Value.oneCell'=true):Rel w L (ZbR ok r) (if ok then .tuple #[r.1,.bool r.2]else r.1):=by
 cases ok
 ·exact Zg9 _ _ _ h
 ·exact⟨_,rfl,_,_,rfl,Zg9 _ _ _ h,_,_,rfl,rfl,rfl⟩
theorem ZiC {P:Program} {o:Oper} {E:Operand→D} {H:Heap} {K:D→Heap→Prop} {t kt et:TypeId} {kd:TypeDesc} {m x:Operand} {ok:Bool} {b c:Nat} {es:Array MapEntry} {k z:Value} {p:Option (Nat×Value)}
  (ho:o.op= .lookup t m x ok) (hu:P.underlying t=some (.map kt et)) (hkt:P.underlying kt=some kd) (hkd:Zf3 kd=true) (hz:(P.info? et).bind (·.zero)=some z) (hm:E m= .is (.map (some b))) (hx0:E x= .is k)
  (hg:y'0 H b=some (.obj (.map es c))) (hf:Instr.findNow kd k es.toList 0=some p) (hone: ∀cs,(v'N z p).1= .agg cs→cs.toList.all Value.oneCell'=true)
  (hk:K (ZbR ok (v'N z p)) H):Op1 P o E H K:=by
 have hmem:=y'J hg
 refine Op1.value (d:=ZbR ok (v'N z p)) (fun w L0 ε hi hx=>?_) hk
 have r1:=hx m (by simp[ho,Op.operands])
 have r2:=hx x (by simp[ho,Op.operands])
 rw[hm]at r1;rw[hx0]at r2
 have r1':ε m= .map (some b):=r1
 have r2':ε x=k:=r2
 have hob:w.heap[b]?=some (.map es c):=hi.rel _ _ hmem
 refine⟨if ok then .tuple #[(v'N z p).1,.bool (v'N z p).2]else(v'N z p).1,?_,Zgq hone⟩
 have:(Instr.lookup t (.map (some b)) k ok).run P w= .ok (if ok then .tuple #[(v'N z p).1,.bool (v'N z p).2]else(v'N z p).1) w:=by
  unfold Instr.lookup
  rw[z'e (run_underlying hu w)]
  simp only
  rw[z'e (a:=Obj.map es c) (w':=w) (by simp[getObj,Sem.run,hob])]
  simp only
  rw[z'e (a:=es) (w':=w) rfl]
  rw[z'e (Zam hkt hkd _ 9999 _ w),z'e (ZaK hkt hf w)]
  cases p with
  |none=>simp only;rw[z'e (Zjm hz w)];rfl
  |some q=>rfl
 simp only[execOp,ho,r1',r2']
 rw[z'e this]
 rfl
theorem ZsD {P:Program} {o:Oper} {E:Operand→D} {H:Heap} {K:D→Heap→Prop} {t kt et:TypeId} {kd:TypeDesc} {m x:Operand} {ok:Bool} {k z:Value}
  (ho:o.op= .lookup t m x ok) (hu:P.underlying t=some (.map kt et)) (hkt:P.underlying kt=some kd) (hkd:Zf3 kd=true) (hz:(P.info? et).bind (·.zero)=some z) (hm:E m= .is (.map none)) (hx0:E x= .is k)
  (hone: ∀cs,z= .agg cs→cs.toList.all Value.oneCell'=true) (hk:K (ZbR ok (z,false)) H):Op1 P o E H K:=by
 refine Op1.value (d:=ZbR ok (z,false)) (fun w L0 ε hi hx=>?_) hk
 have r1:=hx m (by simp[ho,Op.operands])
 have r2:=hx x (by simp[ho,Op.operands])
 rw[hm]at r1;rw[hx0]at r2
 have r1':ε m= .map none:=r1
 have r2':ε x=k:=r2
 refine⟨if ok then .tuple #[z,.bool false]else z,?_,Zgq hone⟩
 have hn:Instr.findNow kd k [] 0=some none:=rfl
 have:(Instr.lookup t (.map none) k ok).run P w= .ok (if ok then .tuple #[z,.bool false]else z) w:=by
  unfold Instr.lookup
  rw[z'e (run_underlying hu w)]
  simp only
  rw[z'e (a:= #[]) (w':=w) rfl]
  rw[z'e (Zam hkt hkd _ 9999 _ w),z'e (ZaK hkt hn w)]
  simp only
  rw[z'e (Zjm hz w)]
  rfl
 simp only[execOp,ho,r1',r2']
 rw[z'e this]
 rfl
def v'7 (es:Array MapEntry) (c:Nat) (k v:Value):Option (Nat×Value)→Obj
 |some q=> .map (es.modify q.1 fun e=>{e with key:=k,val:=v}) c
 |none=> .map (es.push {key:=k,val:=v,born:=c}) (c+1)
theorem Zlj {P:Program} {o:Oper} {E:Operand→D} {H:Heap} {K:D→Heap→Prop} {t kt et:TypeId} {kd:TypeDesc} {m x y:Operand} {b c:Nat} {es:Array MapEntry} {k v:Value} {p:Option (Nat×Value)}
  (ho:o.op= .mapUpdate t m x y∨o.op= .insert t m x y) (hu:P.underlying t=some (.map kt et)) (hkt:P.underlying kt=some kd) (hkd:Zf3 kd=true) (hm:E m= .is (.map (some b))) (hx0:E x= .is k) (hy:ZcO (E y)=some v)
  (hg:y'0 H b=some (.obj (.map es c))) (hf:Instr.findNow kd k es.toList 0=some p) (hs: ∀q,p=some q→Instr.sameBits 10000 (((es[q.1]?).map (·.key)).getD k) k=true) (hk:K (.is undef) (hset H b (.obj (v'7 es c k v p)))):Op1 P o E H K:=by
 have hmem:=y'J hg
 have hbm:b∈H.blocks:=z'p.2 ⟨_,hmem,rfl⟩
 refine⟨fun d' H'=>d'= .is undef∧H'=hset H b (.obj (v'7 es c k v p)),?_,fun _ _ ⟨h1,h2⟩=>h1▸h2▸hk⟩
 intro w L0 ε hi hx
 have ops:m∈o.op.operands∧x∈o.op.operands∧y∈o.op.operands:=by rcases ho with ho|ho<;>simp[ho,Op.operands]
 have r1:=hx m ops.1
 have r2:=hx x ops.2.1
 have r3:=Zgj hy (hx y ops.2.2)
 rw[hm]at r1;rw[hx0]at r2
 have r1':ε m= .map (some b):=r1
 have r2':ε x=k:=r2
 have hob:w.heap[b]?=some (.map es c):=hi.rel _ _ hmem
 have hset': ∀ob,(setObj b ob).run P w= .ok () {w with heap:=w.heap.setIfInBounds b ob}:=fun ob=>by simp[setObj,Sem.run,hob]
 have hrun:(execOp ε o).run P w= .ok .skip {w with heap:=w.heap.setIfInBounds b (v'7 es c k v p)}:=by
  have:(Instr.mapUpdate t (.map (some b)) k v).run P w= .ok () {w with heap:=w.heap.setIfInBounds b (v'7 es c k v p)}:=by
   unfold Instr.mapUpdate
   rw[z'e (run_underlying hu w)]
   simp only
   rw[z'e (a:=Obj.map es c) (w':=w) (by simp[getObj,Sem.run,hob])]
   simp only
   rw[z'e (Zam hkt hkd false 9999 _ w),z'e (ZaK hkt hf w)]
   cases p with
   |none=>exact hset' _
   |some q=>
    simp only
    have hst:(Instr.keyThatStays (((es[q.1]?).map (·.key)).getD k) k).run P w= .ok k w:=by
     unfold Instr.keyThatStays
     rw[if_pos (hs q rfl)]
     rfl
    rw[z'e hst]
    exact hset' _
  rcases ho with ho|ho
  ·simp only[execOp,ho,r1',r2',r3]
   rw[z'e this]
   rfl
  ·simp only[execOp,ho,r1',r2',r3]
   rw[z'e this]
   rfl
 rw[hrun]
 have hevo:=Zbg (w:=w) hbm (v'7 es c k v p) (x'u H b (.obj (v'7 es c k v p)))
 have hbl:=hi.lt hbm
 refine⟨_,_,⟨rfl,rfl⟩,rfl,?_,hevo⟩
 refine HInv.set hi hbm hevo.size (fun k hne _=>by simp[y'g (Ne.symm hne)]) ?_
 show(w.heap.setIfInBounds b _)[b]?=_
 simp[hbl]
def ZaB (es:Array MapEntry) (c:Nat):Option (Nat×Value)→Obj
 |some q=> .map (es.eraseIdxIfInBounds q.1) c
 |none=> .map es c
theorem Zld {P:Program} {o:Oper} {E:Operand→D} {H:Heap} {K:D→Heap→Prop} {t u kt et:TypeId} {kd:TypeDesc} {m x:Operand} {b c:Nat} {es:Array MapEntry} {k:Value} {p:Option (Nat×Value)}
  (ho:o.op= .call ⟨.builtin .delete, #[m,x], #[t,u]⟩) (hu:P.underlying t=some (.map kt et)) (hkt:P.underlying kt=some kd) (hkd:Zf3 kd=true) (hm:E m= .is (.map (some b))) (hx0:E x= .is k)
  (hg:y'0 H b=some (.obj (.map es c))) (hf:Instr.findNow kd k es.toList 0=some p) (hk:K (.tup []) (hset H b (.obj (ZaB es c p)))):Op1 P o E H K:=by
 have hmem:=y'J hg
 have hbm:b∈H.blocks:=z'p.2 ⟨_,hmem,rfl⟩
 refine⟨fun d' H'=>d'= .tup []∧H'=hset H b (.obj (ZaB es c p)),?_,fun _ _ ⟨h1,h2⟩=>h1▸h2▸hk⟩
 intro w L0 ε hi hx
 have r1:=hx m (by simp[ho,Op.operands,Call.operands])
 have r2:=hx x (by simp[ho,Op.operands,Call.operands])
 rw[hm]at r1;rw[hx0]at r2
 have r1':ε m= .map (some b):=r1
 have r2':ε x=k:=r2
 have hob:w.heap[b]?=some (.map es c):=hi.rel _ _ hmem
 have hset': ∀ob,(setObj b ob).run P w= .ok () {w with heap:=w.heap.setIfInBounds b ob}:=fun ob=>by simp[setObj,Sem.run,hob]
 have this:(Builtin.delete_ #[t,u] o.type #[.map (some b),k]).run P w= .ok (.tuple #[]) {w with heap:=w.heap.setIfInBounds b (ZaB es c p)}:=by
  unfold Builtin.delete_
  simp only[y'Q,y'B,x't]
  rw[z'e (run_underlying hu w)]
  simp only
  rw[z'e (a:=Obj.map es c) (w':=w) (by simp[getObj,Sem.run,hob])]
  simp only
  rw[z'e (Zam hkt hkd _ 9999 _ w),z'e (ZaK hkt hf w)]
  cases p with
  |none=>exact z'e (hset' _)
  |some q=>exact z'e (hset' _)
 have hrun:(execOp ε o).run P w= .ok (.value (.tuple #[])) {w with heap:=w.heap.setIfInBounds b (ZaB es c p)}:=by
  simp only[execOp,ho,resolve,invoke,builtin]
  simp[r1',r2']
  rw[this]
  rfl
 rw[hrun]
 have hevo:=Zbg (w:=w) hbm (ZaB es c p) (x'u H b (.obj (ZaB es c p)))
 have hbl:=hi.lt hbm
 refine⟨_,_,⟨rfl,rfl⟩,⟨_,rfl,rfl⟩,?_,hevo⟩
 refine HInv.set hi hbm hevo.size (fun k hne _=>by simp[y'g (Ne.symm hne)]) ?_
 show(w.heap.setIfInBounds b _)[b]?=_
 simp[hbl]
theorem Zpj {P:Program} {o:Oper} {E:Operand→D} {H:Heap} {K:D→Heap→Prop} {t kt et:TypeId} {m:Operand} {b c:Nat} {es:Array MapEntry}
  (ho:o.op= .call ⟨.builtin .len, #[m], #[t]⟩) (hu:P.underlying t=some (.map kt et)) (hm:E m= .is (.map (some b))) (hg:y'0 H b=some (.obj (.map es c))) (hk:K (.is (.int .i64 es.size)) H):Op1 P o E H K:=by
 have hmem:=y'J hg
 refine Op1.value (d:= .is (.int .i64 es.size)) (fun w L0 ε hi hx=>?_) hk
 have r1:=hx m (by simp[ho,Op.operands,Call.operands])
 rw[hm]at r1
 have r1':ε m= .map (some b):=r1
 have hob:w.heap[b]?=some (.map es c):=hi.rel _ _ hmem
 refine⟨.int .i64 es.size,?_,rfl⟩
 have this:(Builtin.len_ #[t] o.type #[.map (some b)]).run P w= .ok (.int .i64 es.size) w:=by
  unfold Builtin.len_
  simp only[y'Q,y'B]
  rw[z'e (run_underlying hu w)]
  simp only
  rw[z'e (a:=Obj.map es c) (w':=w) (by simp[getObj,Sem.run,hob])]
  rfl
 simp only[execOp,ho,resolve,invoke,builtin]
 simp[r1']
 rw[this]
 rfl
open Go Go.ChangeMaps
theorem Zq1 {P:Program} {o:Oper} {E:Operand→D} {H:Heap} {K:D→Heap→Prop} {t kt et:TypeId} {x:Operand} {b c:Nat} {es:Array MapEntry}
  (ho:o.op= .range t x) (hu:P.underlying t=some (.map kt et)) (hx0:E x= .is (.map (some b))) (hg:y'0 H b=some (.obj (.map es c)))
  (hk: ∀r,r∉H.blocks→K (.is (.pointer (some ⟨r,0,none⟩))) ((r,.obj (.mapIter (some b) c #[] c))::H)):Op1 P o E H K:=by
 have hmem:=y'J hg
 refine⟨fun d' H'=> ∃r,r∉H.blocks∧d'= .is (.pointer (some ⟨r,0,none⟩))∧H'=(r,.obj (.mapIter (some b) c #[] c))::H,?_,fun d' H' ⟨r,h1,h2,h3⟩=>h2▸h3▸hk r h1⟩
 intro w L0 ε hi hx
 have r1:=hx x (by simp[ho,Op.operands])
 rw[hx0]at r1
 have r1':ε x= .map (some b):=r1
 have hob:w.heap[b]?=some (.map es c):=hi.rel _ _ hmem
 have hrun:(execOp ε o).run P w= .ok (.value (.pointer (some ⟨w.heap.size,0,none⟩))) (w.alloc (.mapIter (some b) c #[] c)):=by
  simp only[execOp,ho,r1',Instr.range]
  refine(z'e (a:= .pointer (some ⟨w.heap.size,0,none⟩)) (w':=w.alloc (.mapIter (some b) c #[] c)) ?_).trans rfl
  rw[z'e (run_underlying hu w)]
  simp only
  rw[z'e (a:=Obj.map es c) (w':=w) (by simp[getObj,Sem.run,hob])]
  rfl
 rw[hrun]
 have hevo:Evo w H (w.alloc (.mapIter (some b) c #[] c)) ((w.heap.size,.obj (.mapIter (some b) c #[] c))::H):=Za3 w H _ _
 refine⟨_,_,⟨w.heap.size,fun hm=>by have:=hi.lt hm;omega,rfl,rfl⟩,rfl,?_,hevo⟩
 exact HInv.new hi hevo.size (fun k hk=>w'b w _ k hk) (z'f _) (heap_alloc_new w _)
theorem ZsG {P:Program} {o:Oper} {E:Operand→D} {H:Heap} {K:D→Heap→Prop} {x:Operand} {b r since c0 c:Nat} {seen:Array Nat} {es:Array MapEntry}
  (ho:o.op= .next x false) (hx0:E x= .is (.pointer (some ⟨r,0,none⟩))) (hr:y'0 H r=some (.obj (.mapIter (some b) since seen c0))) (hg:y'0 H b=some (.obj (.map es c)))
  (hold: ∀x∈es.toList,x.born<since) (hsc:since≤c0) (h0:(leftOf es seen).size=0→K (.tup [.is (.bool false)]) H)
  (h1: ∀e∈(leftOf es seen).toList,K (.tup [.is (.bool true),.is e.key,.is e.val]) (hset H r (.obj (.mapIter (some b) since (seen.push e.born) c)))):Op1 P o E H K:=by
 have hmr:=y'J hr
 have hmb:=y'J hg
 have hbm:r∈H.blocks:=z'p.2 ⟨_,hmr,rfl⟩
 refine⟨fun d' H'=>((leftOf es seen).size=0∧d'= .tup [.is (.bool false)]∧H'=H)∨ ∃e∈(leftOf es seen).toList,d'= .tup [.is (.bool true),.is e.key,.is e.val]∧H'=hset H r (.obj (.mapIter (some b) since (seen.push e.born) c)),?_,?_⟩
 ·intro w L0 ε hi hx
  have r1:=hx x (by simp[ho,Op.operands])
  rw[hx0]at r1
  have r1':ε x= .pointer (some ⟨r,0,none⟩):=r1
  have hor:w.heap[r]?=some (.mapIter (some b) since seen c0):=hi.rel _ _ hmr
  have hob:w.heap[b]?=some (.map es c):=hi.rel _ _ hmb
  have hex:execOp ε o=(do let v ←Instr.next (.pointer (some ⟨r,0,none⟩)) false o.type;pure (.value v)):=by
   simp only[execOp,ho,r1']
  rw[hex]
  rcases run_next_at (P:=P) w o.type r b since c0 seen es c hor hob hold hsc with⟨hn,hrun⟩|⟨e,he,w1,hw1,hrun⟩
  ·rw[z'e hrun]
   exact⟨_,_,.inl ⟨hn,rfl,rfl⟩,⟨_,rfl,⟨_,_,rfl,rfl,rfl⟩⟩,hi,Evo.refl _ _⟩
  ·rw[z'e hrun]
   have hh:w1.heap=w.heap:=by rcases hw1 with rfl|rfl<;>rfl
   have ho1:w1.os=w.os:=by rcases hw1 with rfl|rfl<;>rfl
   have ho2:w1.tape=w.tape:=by rcases hw1 with rfl|rfl<;>rfl
   have ho3:w1.output=w.output:=by rcases hw1 with rfl|rfl<;>rfl
   have hev0:=Zbg (w:=w1) hbm (.mapIter (some b) since (seen.push e.born) c) (x'u H r (.obj (.mapIter (some b) since (seen.push e.born) c)))
   have hevo:Evo w H (setBlock w1 r (.mapIter (some b) since (seen.push e.born) c)) (hset H r (.obj (.mapIter (some b) since (seen.push e.born) c))):=by
    refine⟨ho1,ho2,ho3,?_,fun k hk1 hn=>?_,fun k hk1=> .inl (x'u H r _▸hk1)⟩
    ·show _≤(w1.heap.setIfInBounds r _).size
     rw[hh];simp
    ·have hne:r≠k:=fun e=>hn (e▸hbm)
     show(w1.heap.setIfInBounds r _)[k]?=_
     rw[hh];simp[y'g hne]
   have hbl:=hi.lt hbm
   refine⟨_,_,.inr ⟨e,he,rfl,rfl⟩,⟨_,rfl,⟨_,_,rfl,rfl,_,_,rfl,rfl,_,_,rfl,rfl,rfl⟩⟩,?_,hevo⟩
   refine HInv.set hi hbm hevo.size (fun k hne _=>?_) ?_
   ·show(w1.heap.setIfInBounds r _)[k]?=_
    rw[hh];simp[y'g (Ne.symm hne)]
   ·show(w1.heap.setIfInBounds r _)[r]?=_
    rw[hh];simp[hbl]
 ·rintro d' H' (⟨hn,rfl,rfl⟩|⟨e,he,rfl,rfl⟩)
  ·exact h0 hn
  ·exact h1 e he
theorem Zg1 {P:Program} {o:Oper} {E:Operand→D} {H:Heap} {K:D→Heap→Prop} {x:Operand} {b r since c:Nat} {seen:Array Nat} {es:Array MapEntry} {e:MapEntry}
  (ho:o.op= .entry x) (hx0:E x= .is (.pointer (some ⟨r,0,none⟩))) (hr:y'0 H r=some (.obj (.mapIter (some b) since (seen.push e.born) c))) (hg:y'0 H b=some (.obj (.map es c)))
  (he:e∈es.toList) (hn:(es.toList.map (·.born)).Nodup) (hk:K (.tup [.is e.key,.is e.val]) H):Op1 P o E H K:=by
 have hmr:=y'J hr
 have hmb:=y'J hg
 refine Op1.value (d:= .tup [.is e.key,.is e.val]) (fun w L0 ε hi hx=>?_) hk
 have r1:=hx x (by simp[ho,Op.operands])
 rw[hx0]at r1
 have r1':ε x= .pointer (some ⟨r,0,none⟩):=r1
 have hor:w.heap[r]?=some (.mapIter (some b) since (seen.push e.born) c):=hi.rel _ _ hmr
 have hob:w.heap[b]?=some (.map es c):=hi.rel _ _ hmb
 refine⟨.tuple #[e.key,e.val],?_,⟨_,rfl,_,_,rfl,rfl,_,_,rfl,rfl,rfl⟩⟩
 simp only[execOp,ho,r1']
 rw[z'e (run_entry_at (P:=P) w r b since seen es c e hor hob he hn)]
 rfl
abbrev Km:=List (ByteArray×Int×Nat)
def kmO (x:ByteArray×Int×Nat):MapEntry:={key:= .string x.1,val:= .int .i64 x.2.1,born:=x.2.2}
def kmE (l:Km):Array MapEntry:=(l.map kmO).toArray
def kmK (l:Km):List ByteArray:=l.map (·.1)
def w'h:Km→ByteArray→Nat→Option (Nat×Int)
 |[],_,_=>none
 |x::l,s,i=>if s=x.1 then some (i,x.2.1)else w'h l s (i+1)
def kmP:Option (Nat×Int)→Option (Nat×Value):=Option.map fun p=>(p.1,.int .i64 p.2)
theorem Zdp (s:ByteArray): ∀(l:Km) (i:Nat),Instr.findNow .string (.string s) (l.map kmO) i=some (kmP (w'h l s i))
 |[],i=>rfl
 |x::l,i=>by
  simp only[z'm,Instr.findNow,kmO,Instr.sameNow,w'h]
  by_cases h:s=x.1
  ·subst h;rw[(MapKept.bytes_beq x.1 x.1).2 rfl];simp[kmP]
  ·have hb:(s == x.1)=false:=by rw[←Bool.not_eq_true,MapKept.bytes_beq];exact h
   rw[hb,if_neg h]
   exact Zdp s l (i+1)
theorem w'p {s:ByteArray}: ∀{l:Km} {i j:Nat} {v:Int},w'h l s i=some (j,v)→ ∃k b,j=i+k∧l[k]?=some (s,v,b)
 |[],i,j,v,h=>by cases h
 |x::l,i,j,v,h=>by
  unfold w'h at h
  split at h
  ·rename_i hs
   cases h
   exact⟨0,x.2.2,rfl,by rw[hs];rfl⟩
  ·obtain⟨k,b,h1,h2⟩:=w'p h
   exact⟨k+1,b,by omega,h2⟩
theorem ZaA {s:ByteArray}: ∀{l:Km} {i:Nat},w'h l s i=none→s∉kmK l
 |[],i,h=>by simp[kmK]
 |x::l,i,h=>by
  unfold w'h at h
  split at h
  ·cases h
  ·rename_i hs
   have:=ZaA h
   simp only[kmK,z'm,z't,not_or]at this⊢
   exact⟨hs,this⟩
structure KmOk (l:Km) (c n:Nat):Prop where
 keys:(kmK l).Nodup
 born:(l.map (·.2.2)).Nodup
 lt: ∀x,x∈l→x.2.2<c
 val: ∀x,x∈l→1≤x.2.1∧x.2.1≤n
 len:l.length≤n
theorem KmOk.nil:KmOk [] 0 0:=⟨x'Y,x'Y,(fun _ h=>by cases h),(fun _ h=>by cases h),z'f _⟩
def kmV (l:Km) (s:ByteArray):Int:=match w'h l s 0 with|some p=>p.2|none=>0
def v'X (l:Km) (c:Nat) (s:ByteArray):Km×Nat:=match w'h l s 0 with
 |some p=>(l.modify p.1 fun x=>(s,p.2+1,x.2.2),c)
 |none=>(l++[(s,1,c)],c+1)
def Zak (l:Km) (s:ByteArray):Km:=match w'h l s 0 with|some p=>l.eraseIdx p.1|none=>l
theorem ZoY {l:Km} {s:ByteArray} (h:s∉kmK l):kmV l s=0:=by
 unfold kmV
 split
 ·rename_i p hp
  obtain⟨k,b,_,h2⟩:=w'p (j:=p.1) (v:=p.2) hp
  exact absurd (z'p.2 ⟨_,z'l h2,rfl⟩) h
 ·rfl
theorem Zmz {l:Km} {c n:Nat} {s:ByteArray} (hk:KmOk l c n) (h:s∈kmK l):1≤kmV l s∧kmV l s≤n:=by
 unfold kmV
 split
 ·rename_i p hp
  obtain⟨k,b,_,h2⟩:=w'p (j:=p.1) (v:=p.2) hp
  exact hk.val _ (z'l h2)
 ·rename_i hn
  exact absurd h (ZaA hn)
theorem ZkQ {l:Km} {c n:Nat} {s:ByteArray} (hk:KmOk l c n):0≤kmV l s∧kmV l s≤n:=by
 by_cases h:s∈kmK l
 ·have:=Zmz hk h;omega
 ·rw[ZoY h];omega
theorem ZhL {l:Km} {c:Nat} {s:ByteArray} (t:ByteArray):t∈kmK (v'X l c s).1↔t∈kmK l∨t=s:=by
 unfold v'X
 split
 ·rename_i p hp
  obtain⟨k,b,h1,h2⟩:=w'p (j:=p.1) (v:=p.2) hp
  have hk:p.1=k:=by omega
  have:kmK (l.modify p.1 fun x=>(s,p.2+1,x.2.2))=kmK l:=by
   unfold kmK
   apply y'U
   intro i
   simp only[z'J,List.getElem?_modify,hk]
   by_cases hi:k=i
   ·subst hi;rw[h2];simp
   ·simp[hi]
  show t∈kmK (l.modify p.1 fun x=>(s,p.2+1,x.2.2))↔_
  rw[this]
  refine⟨.inl,fun h=>h.elim id fun e=>?_⟩
  subst e
  exact z'p.2 ⟨_,z'l h2,rfl⟩
 ·simp[kmK]
theorem ZkP {l:Km} {c n:Nat} {s:ByteArray} (hk:KmOk l c n):KmOk (v'X l c s).1 (v'X l c s).2 (n+1):=by
 unfold v'X
 split
 ·rename_i p hp
  obtain⟨k,b,h1,h2⟩:=w'p (j:=p.1) (v:=p.2) hp
  have hk':p.1=k:=by omega
  have e1:kmK (l.modify p.1 fun x=>(s,p.2+1,x.2.2))=kmK l:=by
   unfold kmK
   apply y'U
   intro i
   simp only[z'J,List.getElem?_modify,hk']
   by_cases hi:k=i
   ·subst hi;rw[h2];simp
   ·simp[hi]
  have e2:(l.modify p.1 fun x=>(s,p.2+1,x.2.2)).map (·.2.2)=l.map (·.2.2):=by
   apply y'U
   intro i
   simp only[z'J,List.getElem?_modify,hk']
   by_cases hi:k=i
   ·subst hi;rw[h2];simp
   ·simp[hi]
  have hmem: ∀x,x∈(l.modify p.1 fun x=>(s,p.2+1,x.2.2))→x∈l∨x=(s,p.2+1,b):=fun x hx=>by
   obtain⟨i,hi⟩:=y'W hx
   rw[List.getElem?_modify]at hi
   by_cases hik:p.1=i
   ·rw[←hik,hk',h2]at hi
    simp at hi
    exact .inr hi.symm
   ·simp[hik]at hi
    exact .inl (z'l hi)
  have hb:=hk.lt _ (z'l h2)
  have hv:=hk.val _ (z'l h2)
  refine⟨by show(kmK _).Nodup;rw[e1];exact hk.keys,by show(List.map _ _).Nodup;rw[e2];exact hk.born,fun x hx=>?_,fun x hx=>?_,by have:=hk.len;show(List.modify _ _ _).length≤_;rw[List.length_modify];omega⟩
  ·rcases hmem x hx with h|h
   ·exact hk.lt x h
   ·subst h;exact hb
  ·rcases hmem x hx with h|h
   ·have:=hk.val x h;omega
   ·subst h;dsimp only at hv⊢;omega
 ·rename_i hn
  have hs:=ZaA hn
  refine⟨?_,?_,fun x hx=>?_,fun x hx=>?_,by have:=hk.len;show(_++_:Km).length≤_;rw[z'h,List.length_singleton];omega⟩
  ·show(kmK (l++[(s,1,c)])).Nodup
   unfold kmK
   rw[z'v,y'z]
   refine⟨hk.keys,by simp,fun a ha b hb=>?_⟩
   simp only[z'm,z'8,z'V]at hb
   subst hb
   exact fun e=>hs (e▸ha)
  ·show((l++[(s,(1:Int),c)]).map fun(x:ByteArray×Int×Nat)=>x.2.2).Nodup
   rw[z'v,y'z]
   refine⟨hk.born,by simp,fun a ha b hb=>?_⟩
   simp only[z'm,z'8,z'V]at hb
   obtain⟨x,hx,rfl⟩:=z'p.1 ha
   have:=hk.lt x hx
   omega
  ·rcases z'W.1 hx with h|h
   ·have:=hk.lt x h;show _<c+1;omega
   ·rw[z'V]at h;subst h;exact Nat.lt_succ_self c
  ·rcases z'W.1 hx with h|h
   ·have:=hk.val x h;omega
   ·rw[z'V]at h;subst h;dsimp only;omega
theorem ZqB {α β:Type} {f:α→β}: ∀(l:List α) (k:Nat),(l.eraseIdx k).map f=(l.map f).eraseIdx k
 |[],k=>by simp
 |x::l,0=>by simp
 |x::l,k+1=>by simp[ZqB l k]
theorem ZqA {l:Km} {c n:Nat} {s:ByteArray} (hk:KmOk l c n):KmOk (Zak l s) c n:=by
 unfold Zak
 split
 ·rename_i p hp
  have hs:=List.eraseIdx_sublist l p.1
  exact⟨hk.keys.sublist (hs.map _),hk.born.sublist (hs.map _),fun x hx=>hk.lt x (hs.subset hx),fun x hx=>hk.val x (hs.subset hx),z'3 hs.length_le hk.len⟩
 ·exact hk
theorem ZhJ {l:Km} {c n:Nat} {s:ByteArray} (hk:KmOk l c n) (t:ByteArray):t∈kmK (Zak l s)↔t∈kmK l∧t≠s:=by
 unfold Zak
 split
 ·rename_i p hp
  obtain⟨k,b,h1,h2⟩:=w'p (j:=p.1) (v:=p.2) hp
  have hk':p.1=k:=by omega
  have hs:(kmK l)[k]?=some s:=by unfold kmK;rw[z'J,h2];rfl
  have he:kmK (l.eraseIdx p.1)=(kmK l).eraseIdx k:=by unfold kmK;rw[hk',ZqB]
  rw[he,List.mem_eraseIdx_iff_getElem?]
  have hnd:=hk.keys
  constructor
  ·rintro⟨i,hne,hi⟩
   refine⟨z'l hi,fun e=>hne ?_⟩
   subst e
   obtain⟨q1,q2⟩:=z'g.1 hi
   obtain⟨q3,q4⟩:=z'g.1 hs
   exact(List.getElem_inj hnd).1 (q2.trans q4.symm)
  ·rintro⟨hm,hne⟩
   obtain⟨i,hi⟩:=y'W hm
   refine⟨i,fun e=>hne ?_,hi⟩
   rw[e,hs]at hi
   exact(y'n hi).symm
 ·rename_i hn
  have hs:=ZaA hn
  exact⟨fun h=>⟨h,fun e=>hs (e▸h)⟩,fun h=>h.1⟩
theorem ZoX {l:Km} {s:ByteArray} (h:s∈kmK l):(Zak l s).length<l.length:=by
 unfold Zak
 split
 ·rename_i p hp
  obtain⟨k,b,h1,h2⟩:=w'p (j:=p.1) (v:=p.2) hp
  obtain⟨q1,_⟩:=z'g.1 h2
  rw[List.length_eraseIdx,if_pos (by omega)]
  omega
 ·rename_i hn
  exact absurd h (ZaA hn)
theorem ZeL {P:Program} {o:Oper} {E:Operand→D} {H:Heap} {K:D→Heap→Prop} {t kt et:TypeId} {m x:Operand} {b c:Nat} {l:Km} {s:ByteArray}
  (ho:o.op= .lookup t m x false) (hu:P.underlying t=some (.map kt et)) (hkt:P.underlying kt=some .string) (hz:(P.info? et).bind (·.zero)=some (.int .i64 0)) (hm:E m= .is (.map (some b))) (hx0:E x= .is (.string s))
  (hg:y'0 H b=some (.obj (.map (kmE l) c))) (hk:K (.is (.int .i64 (kmV l s))) H):Op1 P o E H K:=by
 have hv:ZaY (v'N (.int .i64 0) (kmP (w'h l s 0))).1= .is (.int .i64 (kmV l s)):=by
  unfold kmV
  cases w'h l s 0<;>rfl
 refine ZiC (kd:= .string) (k:= .string s) ho hu hkt rfl hz hm hx0 hg (Zdp s l 0) (fun cs h=>?_) ?_
 ·cases hq:w'h l s 0<;>rw[hq]at h<;>cases h
 ·show K (ZaY _) H
  rw[hv];exact hk
theorem ZmQ {P:Program} {o:Oper} {E:Operand→D} {H:Heap} {K:D→Heap→Prop} {t kt et:TypeId} {m x y:Operand} {b c:Nat} {l:Km} {s:ByteArray}
  (ho:o.op= .mapUpdate t m x y) (hu:P.underlying t=some (.map kt et)) (hkt:P.underlying kt=some .string) (hm:E m= .is (.map (some b))) (hx0:E x= .is (.string s)) (hy:E y= .is (.int .i64 (kmV l s+1)))
  (hg:y'0 H b=some (.obj (.map (kmE l) c))) (hk:K (.is undef) (hset H b (.obj (.map (kmE (v'X l c s).1) (v'X l c s).2)))):Op1 P o E H K:=by
 have hE:v'7 (kmE l) c (.string s) (.int .i64 (kmV l s+1)) (kmP (w'h l s 0))= .map (kmE (v'X l c s).1) (v'X l c s).2:=by
  unfold v'X kmV
  cases hq:w'h l s 0 with
  |none=>
   show Obj.map ((kmE l).push _) (c+1)=_
   congr 1
   simp[kmE,kmO]
  |some p=>
   show Obj.map ((kmE l).modify p.1 _) c=_
   congr 1
   apply z'Z.1
   simp only[kmE,Array.toList_modify]
   apply y'U
   intro i
   simp only[List.getElem?_modify,z'J]
   cases l[i]? with
   |none=>rfl
   |some z=>by_cases h:p.1=i<;>simp[h,kmO]
 refine Zlj (kd:= .string) (k:= .string s) (v:= .int .i64 (kmV l s+1)) (.inl ho) hu hkt rfl hm hx0 (by rw[hy];rfl) hg (Zdp s l 0) (fun q hq=>?_) ?_
 ·cases hp:w'h l s 0 with
  |none=>rw[hp]at hq;cases hq
  |some p=>
   rw[hp]at hq
   cases hq
   obtain⟨k,b',h1,h2⟩:=w'p (j:=p.1) (v:=p.2) hp
   have:(kmE l)[p.1]?=some (kmO (s,p.2,b')):=by
    rw[kmE,y'Q,z'J,show p.1=k by omega,h2];rfl
   show Instr.sameBits 10000 ((((kmE l)[p.1]?).map (·.key)).getD _) _=true
   rw[this]
   exact(MapKept.bytes_beq s s).2 rfl
 ·rw[hE];exact hk
theorem ZsC {P:Program} {o:Oper} {E:Operand→D} {H:Heap} {K:D→Heap→Prop} {t u kt et:TypeId} {m x:Operand} {b c:Nat} {l:Km} {s:ByteArray}
  (ho:o.op= .call ⟨.builtin .delete, #[m,x], #[t,u]⟩) (hu:P.underlying t=some (.map kt et)) (hkt:P.underlying kt=some .string) (hm:E m= .is (.map (some b))) (hx0:E x= .is (.string s))
  (hg:y'0 H b=some (.obj (.map (kmE l) c))) (hk:K (.tup []) (hset H b (.obj (.map (kmE (Zak l s)) c)))):Op1 P o E H K:=by
 have hE:ZaB (kmE l) c (kmP (w'h l s 0))= .map (kmE (Zak l s)) c:=by
  unfold Zak
  cases hq:w'h l s 0 with
  |none=>rfl
  |some p=>
   obtain⟨k,b',h1,h2⟩:=w'p (j:=p.1) (v:=p.2) hq
   obtain⟨q1,_⟩:=z'g.1 h2
   show Obj.map ((kmE l).eraseIdxIfInBounds p.1) c=_
   congr 1
   apply z'Z.1
   unfold Array.eraseIdxIfInBounds
   rw[dif_pos (by simp[kmE];omega)]
   simp[kmE,ZqB]
 refine Zld (kd:= .string) (k:= .string s) ho hu hkt rfl hm hx0 hg (Zdp s l 0) ?_
 rw[hE];exact hk
theorem ZmS {P:Program} {o:Oper} {E:Operand→D} {H:Heap} {K:D→Heap→Prop} {t kt et:TypeId} {m:Operand} {b c:Nat} {l:Km}
  (ho:o.op= .call ⟨.builtin .len, #[m], #[t]⟩) (hu:P.underlying t=some (.map kt et)) (hm:E m= .is (.map (some b))) (hg:y'0 H b=some (.obj (.map (kmE l) c))) (hk:K (.is (.int .i64 (l.length:Nat))) H):Op1 P o E H K:=
 Zpj ho hu hm hg (by rw[show(kmE l).size=l.length by simp[kmE]];exact hk)
end Go.Vc
