/- The program's steps of any thread. No condition. -/
import Derived.Test.YthlkpnjjkgmlkaaGreatLc
import Derived.Test.YthlkpnjjkgmlkaaGreatYp
import Derived.Test.YthlkpnjjkgmlkaaGreatXe
import Derived.Test.YthlkpnjjkgmlkaaGreatYi
import Derived.Test.YthlkpnjjkgmlkaaGreatK2
import Derived.Maps.RangeRun
namespace Go.Proofs.YthlkpnjjkgmlkaaGreat
set_option linter.unusedSimpArgs false
set_option linter.unusedVariables false
set_option maxRecDepth 20000
open Go Go.Proofs Go.Vc
attribute [local irreducible] x'r VCg VCw VCx
def Zgg (u:Un) (c:Cf) (m r t:Int):Cf:=match enT u c m r t with
 |true=>match Zh8 u c t.toNat with
  |some x=>ZdE u (setP c t.toNat (c.pc.getD t.toNat 0+1)) m t.toNat x (c.regs.getD t.toNat []) (c.bufs.getD t.toNat [])
  |none=>c
 |false=>c
theorem ZqR {u:Un} {c:Cf} {m r:Int} {i:Nat} {x:Ins} {row:List Int} {b:List En} {p:Nat} (h:Zr9 u c i x row b p):Zgg u c m r (i:Nat)=Zsd u c m i x row b p (enT u c m r (i:Nat)):=by
 unfold Zgg Zsd
 cases enT u c m r (i:Nat)with
 |false=>rfl
 |true=>
  simp only[z'b,h.thr.at_.ins,z'f,h.pc,h.thr.reg,h.thr.buf,z'B]
  rfl
theorem ZqS {u:Un} {c:Cf} {m r t:Int} (h:enT u c m r t=false):Zgg u c m r t=c:=by unfold Zgg;rw[h]
def ZtO (u:Un) (c:Cf) (m r:Int):Ag→Cf
 | .th t=>Zgg u c m r (t:Nat)
 | .fl t l=>ZeQ c m (t:Nat) l
section
variable {u : Un} {c : Cf} {m r : Int}
end
def Zt6 (u:Un) (m a:Int):Option Ag:=match decide (0≤a)with|true=>(ZtP u m)[a.toNat]?|false=>none
def actM (u:Un) (c:Cf) (m r a:Int):Cf:=match Zt6 u m a with|some ag=>ZtO u c m r ag|none=>c
section
variable {u : Un} {c : Cf} {m r : Int}
end
section
variable {u : Un} {c : Cf} {m r : Int}
end
theorem OC.okR {gp gr gm gb g:G} {pre post:OR} {row:List Int} {c:Cf} {i:Nat} (hq:(OC.mk gp gr gm gb (pre++(g,row)::post)).ok c) (hset:c.regs.set i=fun r'=>(pre++(g,r')::post).map (·.2)) (k:Nat) (n:Int):
  (OC.mk gp gr gm gb (pre++(g,row.set k n)::post)).ok (Zii c i (row.set k n)):=by
 refine⟨hq.pc,by simpa[Zii]using hq.gr,hq.mem,hq.bufs,(congrFun hset _).symm,?_⟩
 intro p hp
 have hgi:gOk g row.length:=hq.row (g,row) (by simp)
 rcases z'X.1 hp with hp|hp
 ·exact hq.row p (y'H _ hp)
 ·rcases z'v.1 hp with rfl|hp
  ·simpa using hgi
  ·exact hq.row p (x'M _ (z'o _ hp))
section
variable {u : Un} {c : Cf} {m : Int} {i : Nat} {x : Ins} {row : List Int} {b : List En}
end
end Go.Proofs.YthlkpnjjkgmlkaaGreat
/- Maps, whatever their entries: keys that are numbers or texts. No condition. -/
namespace Go.Vc
set_option linter.unusedSimpArgs false
set_option linter.unusedVariables false
open Go
def ZfJ:TypeDesc→Bool
 | .int _=>true
 | .string=>true
 |_=>false
theorem Zad {P:Program} {t:TypeId} {kd:TypeDesc} (hu:P.underlying t=some kd) (hk:ZfJ kd=true) (e:Bool) (n:Nat) (v:Value) (w:World):(Instr.checkKey e (n+1) t v).run P w= .ok () w:=by
 unfold Instr.checkKey
 rw[z'h (run_underlying hu w)]
 cases kd<;>first|rfl|cases hk
theorem Zax {P:Program} {t:TypeId} {kd:TypeDesc} (hu:P.underlying t=some kd) {k:Value} {es:List MapEntry} {p:Option (Nat×Value)} (hf:Instr.findNow kd k es 0=some p) (w:World):(Instr.findKey t k es).run P w= .ok p w:=by
 unfold Instr.findKey
 rw[z'h (run_underlying hu w),hf]
 rfl
theorem ZiU {P:Program} {t:TypeId} {z:Value} (hz:(P.info? t).bind (·.zero)=some z) (w:World):(zeroValue t).run P w= .ok z w:=by
 cases hi':P.info? t with
 |none=>rw[hi']at hz;cases hz
 |some i=>
  rw[hi']at hz
  unfold zeroValue
  rw[z'h (v'4 hi' w),show i.zero=some z from hz]
  rfl
def v'I (z:Value):Option (Nat×Value)→Value×Bool
 |some q=>(q.2,true)
 |none=>(z,false)
def ZbH (ok:Bool) (r:Value×Bool):D:=match ok with|true=> .tup [ZbM r.1,.is (.bool r.2)]|false=>ZbM r.1
theorem Zga {w:World} {L:Nat→Prop} {ok:Bool} {r:Value×Bool} (h: ∀cs,r.1= .agg cs→cs.toList.all Value.oneCell'=true):Rel w L (ZbH ok r) (if ok then .tuple #[r.1,.bool r.2]else r.1):=by
 cases ok
 ·exact ZgO _ _ _ h
 ·exact⟨_,rfl,_,_,rfl,ZgO _ _ _ h,_,_,rfl,rfl,rfl⟩
theorem ZdR {P:Program} {o:Oper} {E:Operand→D} {H:Heap} {K:D→Heap→Prop} {t kt et:TypeId} {kd:TypeDesc} {m x:Operand} {ok:Bool} {b c:Nat} {es:Array MapEntry} {k z:Value} {p:Option (Nat×Value)}
  (ho:o.op= .lookup t m x ok) (hu:P.underlying t=some (.map kt et)) (hkt:P.underlying kt=some kd) (hkd:ZfJ kd=true) (hz:(P.info? et).bind (·.zero)=some z) (hm:E m= .is (.map (some b))) (hx0:E x= .is k)
  (hg:y'V H b=some (.obj (.map es c))) (hf:Instr.findNow kd k es.toList 0=some p) (hone: ∀cs,(v'I z p).1= .agg cs→cs.toList.all Value.oneCell'=true)
  (hk:K (ZbH ok (v'I z p)) H):Op1 P o E H K:=by
 have hmem:=x'o hg
 refine Op1.value (d:=ZbH ok (v'I z p)) (fun w L0 ε hi hx=>?_) hk
 have r1:=hx m (by simp[ho,Op.operands])
 have r2:=hx x (by simp[ho,Op.operands])
 rw[hm]at r1;rw[hx0]at r2
 have r1':ε m= .map (some b):=r1
 have r2':ε x=k:=r2
 have hob:w.heap[b]?=some (.map es c):=hi.rel _ _ hmem
 refine⟨if ok then .tuple #[(v'I z p).1,.bool (v'I z p).2]else(v'I z p).1,?_,Zga hone⟩
 have:(Instr.lookup t (.map (some b)) k ok).run P w= .ok (if ok then .tuple #[(v'I z p).1,.bool (v'I z p).2]else(v'I z p).1) w:=by
  unfold Instr.lookup
  rw[z'h (run_underlying hu w)]
  simp only
  rw[z'h (a:=Obj.map es c) (w':=w) (by simp[getObj,Sem.run,hob])]
  simp only
  rw[z'h (a:=es) (w':=w) rfl]
  rw[z'h (Zad hkt hkd _ 9999 _ w),z'h (Zax hkt hf w)]
  cases p with
  |none=>simp only;rw[z'h (ZiU hz w)];rfl
  |some q=>rfl
 simp only[execOp,ho,r1',r2']
 rw[z'h this]
 rfl
theorem Zl5 {P:Program} {o:Oper} {E:Operand→D} {H:Heap} {K:D→Heap→Prop} {t kt et:TypeId} {kd:TypeDesc} {m x:Operand} {ok:Bool} {k z:Value}
  (ho:o.op= .lookup t m x ok) (hu:P.underlying t=some (.map kt et)) (hkt:P.underlying kt=some kd) (hkd:ZfJ kd=true) (hz:(P.info? et).bind (·.zero)=some z) (hm:E m= .is (.map none)) (hx0:E x= .is k)
  (hone: ∀cs,z= .agg cs→cs.toList.all Value.oneCell'=true) (hk:K (ZbH ok (z,false)) H):Op1 P o E H K:=by
 refine Op1.value (d:=ZbH ok (z,false)) (fun w L0 ε hi hx=>?_) hk
 have r1:=hx m (by simp[ho,Op.operands])
 have r2:=hx x (by simp[ho,Op.operands])
 rw[hm]at r1;rw[hx0]at r2
 have r1':ε m= .map none:=r1
 have r2':ε x=k:=r2
 refine⟨if ok then .tuple #[z,.bool false]else z,?_,Zga hone⟩
 have hn:Instr.findNow kd k [] 0=some none:=rfl
 have:(Instr.lookup t (.map none) k ok).run P w= .ok (if ok then .tuple #[z,.bool false]else z) w:=by
  unfold Instr.lookup
  rw[z'h (run_underlying hu w)]
  simp only
  rw[z'h (a:= #[]) (w':=w) rfl]
  rw[z'h (Zad hkt hkd _ 9999 _ w),z'h (Zax hkt hn w)]
  simp only
  rw[z'h (ZiU hz w)]
  rfl
 simp only[execOp,ho,r1',r2']
 rw[z'h this]
 rfl
def v'K (es:Array MapEntry) (c:Nat) (k v:Value):Option (Nat×Value)→Obj
 |some q=> .map (es.modify q.1 fun e=>{e with key:=k,val:=v}) c
 |none=> .map (es.push {key:=k,val:=v,born:=c}) (c+1)
theorem Zhv {P:Program} {o:Oper} {E:Operand→D} {H:Heap} {K:D→Heap→Prop} {t kt et:TypeId} {kd:TypeDesc} {m x y:Operand} {b c:Nat} {es:Array MapEntry} {k v:Value} {p:Option (Nat×Value)}
  (ho:o.op= .mapUpdate t m x y∨o.op= .insert t m x y) (hu:P.underlying t=some (.map kt et)) (hkt:P.underlying kt=some kd) (hkd:ZfJ kd=true) (hm:E m= .is (.map (some b))) (hx0:E x= .is k) (hy:Zcz (E y)=some v)
  (hg:y'V H b=some (.obj (.map es c))) (hf:Instr.findNow kd k es.toList 0=some p) (hs: ∀q,p=some q→Instr.sameBits 10000 (((es[q.1]?).map (·.key)).getD k) k=true) (hk:K (.is undef) (hset H b (.obj (v'K es c k v p)))):Op1 P o E H K:=by
 have hmem:=x'o hg
 have hbm:b∈H.blocks:=z'w.2 ⟨_,hmem,rfl⟩
 refine⟨fun d' H'=>d'= .is undef∧H'=hset H b (.obj (v'K es c k v p)),?_,fun _ _ ⟨h1,h2⟩=>h1▸h2▸hk⟩
 intro w L0 ε hi hx
 have ops:m∈o.op.operands∧x∈o.op.operands∧y∈o.op.operands:=by rcases ho with ho|ho<;>simp[ho,Op.operands]
 have r1:=hx m ops.1
 have r2:=hx x ops.2.1
 have r3:=Zf5 hy (hx y ops.2.2)
 rw[hm]at r1;rw[hx0]at r2
 have r1':ε m= .map (some b):=r1
 have r2':ε x=k:=r2
 have hob:w.heap[b]?=some (.map es c):=hi.rel _ _ hmem
 have hset': ∀ob,(setObj b ob).run P w= .ok () {w with heap:=w.heap.setIfInBounds b ob}:=fun ob=>by simp[setObj,Sem.run,hob]
 have hrun:(execOp ε o).run P w= .ok .skip {w with heap:=w.heap.setIfInBounds b (v'K es c k v p)}:=by
  have:(Instr.mapUpdate t (.map (some b)) k v).run P w= .ok () {w with heap:=w.heap.setIfInBounds b (v'K es c k v p)}:=by
   unfold Instr.mapUpdate
   rw[z'h (run_underlying hu w)]
   simp only
   rw[z'h (a:=Obj.map es c) (w':=w) (by simp[getObj,Sem.run,hob])]
   simp only
   rw[z'h (Zad hkt hkd false 9999 _ w),z'h (Zax hkt hf w)]
   cases p with
   |none=>exact hset' _
   |some q=>
    simp only
    have hst:(Instr.keyThatStays (((es[q.1]?).map (·.key)).getD k) k).run P w= .ok k w:=by
     unfold Instr.keyThatStays
     rw[if_pos (hs q rfl)]
     rfl
    rw[z'h hst]
    exact hset' _
  rcases ho with ho|ho
  ·simp only[execOp,ho,r1',r2',r3]
   rw[z'h this]
   rfl
  ·simp only[execOp,ho,r1',r2',r3]
   rw[z'h this]
   rfl
 rw[hrun]
 have hevo:=Zcl (w:=w) hbm (v'K es c k v p) (w'c H b (.obj (v'K es c k v p)))
 have hbl:=hi.lt hbm
 refine⟨_,_,⟨rfl,rfl⟩,rfl,?_,hevo⟩
 refine HInv.set hi hbm hevo.size (fun k hne _=>by simp[y'E (Ne.symm hne)]) ?_
 show(w.heap.setIfInBounds b _)[b]?=_
 simp[hbl]
def Zbi (es:Array MapEntry) (c:Nat):Option (Nat×Value)→Obj
 |some q=> .map (es.eraseIdxIfInBounds q.1) c
 |none=> .map es c
theorem Zot {P:Program} {o:Oper} {E:Operand→D} {H:Heap} {K:D→Heap→Prop} {t u kt et:TypeId} {kd:TypeDesc} {m x:Operand} {b c:Nat} {es:Array MapEntry} {k:Value} {p:Option (Nat×Value)}
  (ho:o.op= .call ⟨.builtin .delete, #[m,x], #[t,u]⟩) (hu:P.underlying t=some (.map kt et)) (hkt:P.underlying kt=some kd) (hkd:ZfJ kd=true) (hm:E m= .is (.map (some b))) (hx0:E x= .is k)
  (hg:y'V H b=some (.obj (.map es c))) (hf:Instr.findNow kd k es.toList 0=some p) (hk:K (.tup []) (hset H b (.obj (Zbi es c p)))):Op1 P o E H K:=by
 have hmem:=x'o hg
 have hbm:b∈H.blocks:=z'w.2 ⟨_,hmem,rfl⟩
 refine⟨fun d' H'=>d'= .tup []∧H'=hset H b (.obj (Zbi es c p)),?_,fun _ _ ⟨h1,h2⟩=>h1▸h2▸hk⟩
 intro w L0 ε hi hx
 have r1:=hx m (by simp[ho,Op.operands,Call.operands])
 have r2:=hx x (by simp[ho,Op.operands,Call.operands])
 rw[hm]at r1;rw[hx0]at r2
 have r1':ε m= .map (some b):=r1
 have r2':ε x=k:=r2
 have hob:w.heap[b]?=some (.map es c):=hi.rel _ _ hmem
 have hset': ∀ob,(setObj b ob).run P w= .ok () {w with heap:=w.heap.setIfInBounds b ob}:=fun ob=>by simp[setObj,Sem.run,hob]
 have this:(Builtin.delete_ #[t,u] o.type #[.map (some b),k]).run P w= .ok (.tuple #[]) {w with heap:=w.heap.setIfInBounds b (Zbi es c p)}:=by
  unfold Builtin.delete_
  simp only[x'N,x'j,x'D]
  rw[z'h (run_underlying hu w)]
  simp only
  rw[z'h (a:=Obj.map es c) (w':=w) (by simp[getObj,Sem.run,hob])]
  simp only
  rw[z'h (Zad hkt hkd _ 9999 _ w),z'h (Zax hkt hf w)]
  cases p with
  |none=>exact z'h (hset' _)
  |some q=>exact z'h (hset' _)
 have hrun:(execOp ε o).run P w= .ok (.value (.tuple #[])) {w with heap:=w.heap.setIfInBounds b (Zbi es c p)}:=by
  simp only[execOp,ho,resolve,invoke,builtin]
  simp[r1',r2']
  rw[this]
  rfl
 rw[hrun]
 have hevo:=Zcl (w:=w) hbm (Zbi es c p) (w'c H b (.obj (Zbi es c p)))
 have hbl:=hi.lt hbm
 refine⟨_,_,⟨rfl,rfl⟩,⟨_,rfl,rfl⟩,?_,hevo⟩
 refine HInv.set hi hbm hevo.size (fun k hne _=>by simp[y'E (Ne.symm hne)]) ?_
 show(w.heap.setIfInBounds b _)[b]?=_
 simp[hbl]
theorem ZsY {P:Program} {o:Oper} {E:Operand→D} {H:Heap} {K:D→Heap→Prop} {t kt et:TypeId} {m:Operand} {b c:Nat} {es:Array MapEntry}
  (ho:o.op= .call ⟨.builtin .len, #[m], #[t]⟩) (hu:P.underlying t=some (.map kt et)) (hm:E m= .is (.map (some b))) (hg:y'V H b=some (.obj (.map es c))) (hk:K (.is (.int .i64 es.size)) H):Op1 P o E H K:=by
 have hmem:=x'o hg
 refine Op1.value (d:= .is (.int .i64 es.size)) (fun w L0 ε hi hx=>?_) hk
 have r1:=hx m (by simp[ho,Op.operands,Call.operands])
 rw[hm]at r1
 have r1':ε m= .map (some b):=r1
 have hob:w.heap[b]?=some (.map es c):=hi.rel _ _ hmem
 refine⟨.int .i64 es.size,?_,rfl⟩
 have this:(Builtin.len_ #[t] o.type #[.map (some b)]).run P w= .ok (.int .i64 es.size) w:=by
  unfold Builtin.len_
  simp only[x'N,x'j]
  rw[z'h (run_underlying hu w)]
  simp only
  rw[z'h (a:=Obj.map es c) (w':=w) (by simp[getObj,Sem.run,hob])]
  rfl
 simp only[execOp,ho,resolve,invoke,builtin]
 simp[r1']
 rw[this]
 rfl
open Go Go.ChangeMaps
abbrev Km:=List (ByteArray×Int×Nat)
def kmO (x:ByteArray×Int×Nat):MapEntry:={key:= .string x.1,val:= .int .i64 x.2.1,born:=x.2.2}
def kmE (l:Km):Array MapEntry:=(l.map kmO).toArray
def kmK (l:Km):List ByteArray:=l.map (·.1)
def w'W:Km→ByteArray→Nat→Option (Nat×Int)
 |[],_,_=>none
 |x::l,s,i=>if s=x.1 then some (i,x.2.1)else w'W l s (i+1)
def kmP:Option (Nat×Int)→Option (Nat×Value):=Option.map fun p=>(p.1,.int .i64 p.2)
theorem Zfb (s:ByteArray): ∀(l:Km) (i:Nat),Instr.findNow .string (.string s) (l.map kmO) i=some (kmP (w'W l s i))
 |[],i=>rfl
 |x::l,i=>by
  simp only[z'p,Instr.findNow,kmO,Instr.sameNow,w'W]
  by_cases h:s=x.1
  ·subst h;rw[(MapKept.bytes_beq x.1 x.1).2 rfl];simp[kmP]
  ·have hb:(s == x.1)=false:=by rw[←Bool.not_eq_true,MapKept.bytes_beq];exact h
   rw[hb,if_neg h]
   exact Zfb s l (i+1)
theorem w'N {s:ByteArray}: ∀{l:Km} {i j:Nat} {v:Int},w'W l s i=some (j,v)→ ∃k b,j=i+k∧l[k]?=some (s,v,b)
 |[],i,j,v,h=>by cases h
 |x::l,i,j,v,h=>by
  unfold w'W at h
  split at h
  ·rename_i hs
   cases h
   exact⟨0,x.2.2,rfl,by rw[hs];rfl⟩
  ·obtain⟨k,b,h1,h2⟩:=w'N h
   exact⟨k+1,b,by omega,h2⟩
theorem ZbS {s:ByteArray}: ∀{l:Km} {i:Nat},w'W l s i=none→s∉kmK l
 |[],i,h=>by simp[kmK]
 |x::l,i,h=>by
  unfold w'W at h
  split at h
  ·cases h
  ·rename_i hs
   have:=ZbS h
   simp only[kmK,z'p,z'v,not_or]at this⊢
   exact⟨hs,this⟩
structure KmOk (l:Km) (c n:Nat):Prop where
 keys:(kmK l).Nodup
 born:(l.map (·.2.2)).Nodup
 lt: ∀x,x∈l→x.2.2<c
 val: ∀x,x∈l→1≤x.2.1∧x.2.1≤n
 len:l.length≤n
theorem KmOk.nil:KmOk [] 0 0:=⟨w'F,w'F,(fun _ h=>by cases h),(fun _ h=>by cases h),z'c _⟩
def kmV (l:Km) (s:ByteArray):Int:=match w'W l s 0 with|some p=>p.2|none=>0
def w'a (l:Km) (c:Nat) (s:ByteArray):Km×Nat:=match w'W l s 0 with
 |some p=>(l.modify p.1 fun x=>(s,p.2+1,x.2.2),c)
 |none=>(l++[(s,1,c)],c+1)
theorem Zkl {l:Km} {s:ByteArray} (h:s∉kmK l):kmV l s=0:=by
 unfold kmV
 split
 ·rename_i p hp
  obtain⟨k,b,_,h2⟩:=w'N (j:=p.1) (v:=p.2) hp
  exact absurd (z'w.2 ⟨_,z'E h2,rfl⟩) h
 ·rfl
theorem ZmW {l:Km} {c:Nat} {s:ByteArray} (t:ByteArray):t∈kmK (w'a l c s).1↔t∈kmK l∨t=s:=by
 unfold w'a
 split
 ·rename_i p hp
  obtain⟨k,b,h1,h2⟩:=w'N (j:=p.1) (v:=p.2) hp
  have hk:p.1=k:=by omega
  have:kmK (l.modify p.1 fun x=>(s,p.2+1,x.2.2))=kmK l:=by
   unfold kmK
   apply x'V
   intro i
   simp only[z'K,List.getElem?_modify,hk]
   by_cases hi:k=i
   ·subst hi;rw[h2];simp
   ·simp[hi]
  show t∈kmK (l.modify p.1 fun x=>(s,p.2+1,x.2.2))↔_
  rw[this]
  refine⟨.inl,fun h=>h.elim id fun e=>?_⟩
  subst e
  exact z'w.2 ⟨_,z'E h2,rfl⟩
 ·simp[kmK]
theorem Zkk {l:Km} {c n:Nat} {s:ByteArray} (hk:KmOk l c n):KmOk (w'a l c s).1 (w'a l c s).2 (n+1):=by
 unfold w'a
 split
 ·rename_i p hp
  obtain⟨k,b,h1,h2⟩:=w'N (j:=p.1) (v:=p.2) hp
  have hk':p.1=k:=by omega
  have e1:kmK (l.modify p.1 fun x=>(s,p.2+1,x.2.2))=kmK l:=by
   unfold kmK
   apply x'V
   intro i
   simp only[z'K,List.getElem?_modify,hk']
   by_cases hi:k=i
   ·subst hi;rw[h2];simp
   ·simp[hi]
  have e2:(l.modify p.1 fun x=>(s,p.2+1,x.2.2)).map (·.2.2)=l.map (·.2.2):=by
   apply x'V
   intro i
   simp only[z'K,List.getElem?_modify,hk']
   by_cases hi:k=i
   ·subst hi;rw[h2];simp
   ·simp[hi]
  have hmem: ∀x,x∈(l.modify p.1 fun x=>(s,p.2+1,x.2.2))→x∈l∨x=(s,p.2+1,b):=fun x hx=>by
   obtain⟨i,hi⟩:=y'u hx
   rw[List.getElem?_modify]at hi
   by_cases hik:p.1=i
   ·rw[←hik,hk',h2]at hi
    simp at hi
    exact .inr hi.symm
   ·simp[hik]at hi
    exact .inl (z'E hi)
  have hb:=hk.lt _ (z'E h2)
  have hv:=hk.val _ (z'E h2)
  refine⟨by show(kmK _).Nodup;rw[e1];exact hk.keys,by show(List.map _ _).Nodup;rw[e2];exact hk.born,fun x hx=>?_,fun x hx=>?_,by have:=hk.len;show(List.modify _ _ _).length≤_;rw[List.length_modify];omega⟩
  ·rcases hmem x hx with h|h
   ·exact hk.lt x h
   ·subst h;exact hb
  ·rcases hmem x hx with h|h
   ·have:=hk.val x h;omega
   ·subst h;dsimp only at hv⊢;omega
 ·rename_i hn
  have hs:=ZbS hn
  refine⟨?_,?_,fun x hx=>?_,fun x hx=>?_,by have:=hk.len;show(_++_:Km).length≤_;rw[z'e,List.length_singleton];omega⟩
  ·show(kmK (l++[(s,1,c)])).Nodup
   unfold kmK
   rw[z'A,y'S]
   refine⟨hk.keys,by simp,fun a ha b hb=>?_⟩
   simp only[z'p,y'a,z'R]at hb
   subst hb
   exact fun e=>hs (e▸ha)
  ·show((l++[(s,(1:Int),c)]).map fun(x:ByteArray×Int×Nat)=>x.2.2).Nodup
   rw[z'A,y'S]
   refine⟨hk.born,by simp,fun a ha b hb=>?_⟩
   simp only[z'p,y'a,z'R]at hb
   obtain⟨x,hx,rfl⟩:=z'w.1 ha
   have:=hk.lt x hx
   omega
  ·rcases z'X.1 hx with h|h
   ·have:=hk.lt x h;show _<c+1;omega
   ·rw[z'R]at h;subst h;exact Nat.lt_succ_self c
  ·rcases z'X.1 hx with h|h
   ·have:=hk.val x h;omega
   ·rw[z'R]at h;subst h;dsimp only;omega
theorem v'2 {P:Program} {o:Oper} {E:Operand→D} {H:Heap} {K:D→Heap→Prop} {t kt et:TypeId} {m x:Operand} {b c:Nat} {l:Km} {s:ByteArray}
  (ho:o.op= .lookup t m x false) (hu:P.underlying t=some (.map kt et)) (hkt:P.underlying kt=some .string) (hz:(P.info? et).bind (·.zero)=some (.int .i64 0)) (hm:E m= .is (.map (some b))) (hx0:E x= .is (.string s))
  (hg:y'V H b=some (.obj (.map (kmE l) c))) (hk:K (.is (.int .i64 (kmV l s))) H):Op1 P o E H K:=by
 have hv:ZbM (v'I (.int .i64 0) (kmP (w'W l s 0))).1= .is (.int .i64 (kmV l s)):=by
  unfold kmV
  cases w'W l s 0<;>rfl
 refine ZdR (kd:= .string) (k:= .string s) ho hu hkt rfl hz hm hx0 hg (Zfb s l 0) (fun cs h=>?_) ?_
 ·cases hq:w'W l s 0<;>rw[hq]at h<;>cases h
 ·show K (ZbM _) H
  rw[hv];exact hk
theorem Zl3 {P:Program} {o:Oper} {E:Operand→D} {H:Heap} {K:D→Heap→Prop} {t kt et:TypeId} {m x y:Operand} {b c:Nat} {l:Km} {s:ByteArray}
  (ho:o.op= .mapUpdate t m x y) (hu:P.underlying t=some (.map kt et)) (hkt:P.underlying kt=some .string) (hm:E m= .is (.map (some b))) (hx0:E x= .is (.string s)) (hy:E y= .is (.int .i64 (kmV l s+1)))
  (hg:y'V H b=some (.obj (.map (kmE l) c))) (hk:K (.is undef) (hset H b (.obj (.map (kmE (w'a l c s).1) (w'a l c s).2)))):Op1 P o E H K:=by
 have hE:v'K (kmE l) c (.string s) (.int .i64 (kmV l s+1)) (kmP (w'W l s 0))= .map (kmE (w'a l c s).1) (w'a l c s).2:=by
  unfold w'a kmV
  cases hq:w'W l s 0 with
  |none=>
   show Obj.map ((kmE l).push _) (c+1)=_
   congr 1
   simp[kmE,kmO]
  |some p=>
   show Obj.map ((kmE l).modify p.1 _) c=_
   congr 1
   apply y'd.1
   simp only[kmE,Array.toList_modify]
   apply x'V
   intro i
   simp only[List.getElem?_modify,z'K]
   cases l[i]? with
   |none=>rfl
   |some z=>by_cases h:p.1=i<;>simp[h,kmO]
 refine Zhv (kd:= .string) (k:= .string s) (v:= .int .i64 (kmV l s+1)) (.inl ho) hu hkt rfl hm hx0 (by rw[hy];rfl) hg (Zfb s l 0) (fun q hq=>?_) ?_
 ·cases hp:w'W l s 0 with
  |none=>rw[hp]at hq;cases hq
  |some p=>
   rw[hp]at hq
   cases hq
   obtain⟨k,b',h1,h2⟩:=w'N (j:=p.1) (v:=p.2) hp
   have:(kmE l)[p.1]?=some (kmO (s,p.2,b')):=by
    rw[kmE,x'N,z'K,show p.1=k by omega,h2];rfl
   show Instr.sameBits 10000 ((((kmE l)[p.1]?).map (·.key)).getD _) _=true
   rw[this]
   exact(MapKept.bytes_beq s s).2 rfl
 ·rw[hE];exact hk
end Go.Vc
