/- Contracts: numbers in digits. No condition. -/
import Derived.Test.YtomcmfbpmkklmaaGreatWb
import Derived.Test.YtomcmfbpmkklmaaGreatWa
import Derived.Test.YtomcmfbpmkklmaaGreatXe
namespace Go.Proofs.YtomcmfbpmkklmaaGreat
set_option maxHeartbeats 16000000
set_option linter.unusedSimpArgs false
set_option linter.unusedVariables false
open Go Go.Proofs Go.Vc
attribute [local irreducible] y'0 VCg VCw VCx
end Go.Proofs.YtomcmfbpmkklmaaGreat
/- Calls through interfaces. No condition. -/
namespace Go.Vc
set_option maxHeartbeats 16000000
set_option linter.unusedSimpArgs false
set_option linter.unusedVariables false
open Go
def ZcI (P:Program) (t:TypeId) (name:String):Option FuncId:=
 match P.info? t,P.underlying t with
 |some i,some d=>(match d with
  | .pointer _=>none
  |_=>match i.methods.find? (·.name == name)with
   |some m=>(match m.path.toList,m.func with
    |[],some (f,false)=>some f
    |_,_=>none)
   |none=>none)
 |_,_=>none
theorem ZiJ {P:Program} {t:TypeId} {i:TypeInfo} (h:P.info? t=some i) (w:World):(typeInfo t).run P w= .ok i w:=by
 unfold typeInfo
 rw[z'n (a:=P) (w':=w) rfl]
 simp only[h]
 rfl
theorem Zkh {P:Program} {t:TypeId} {name:String} {f:FuncId} (h:ZcI P t name=some f) (n:Nat) (v:Value) (w:World):(method (n+1) t v name).run P w= .ok (f,v) w:=by
 unfold ZcI at h
 split at h
 ·rename_i i d hi hd
  split at h
  ·cases h
  rename_i hnp
  split at h
  ·rename_i m hm
   split at h
   ·rename_i f' hp hf
    cases h
    unfold method
    rw[z'n (ZiJ hi w)]
    simp only[hm]
    rw[hp]
    simp only[follow]
    rw[z'n (a:=(t,Place.val v)) (w':=w) rfl]
    simp only[hf]
    unfold receiverAt
    refine(z'n (a:=v) (w':=w) ?_).trans rfl
    rw[z'n (run_underlying hd w)]
    split
    all_goals first|rfl|(exfalso;simp_all;done)|skip
   ·cases h
  ·cases h
 ·cases h
theorem Op1.enterG {P:Program} {o:Oper} {E:Operand→D} {f:FuncId} {args:List D} {H:Heap} {fr:Bool} {Φ:D→Heap→Prop} {K:D→Heap→Prop} (h:Fun P f args [] fr Φ)
  (hrun: ∀(w:World) (L:Nat→Prop) (ε:Operand→Value),(∀fn,P.funcs[f]?=some fn→fn.body.isSome=true→(fn.name == "runtime.NumGoroutine")=false→ ∀(xs:Array Value) (w:World),(callFunc f xs).run P w= .ok (.enter f xs) w)→
   (∀y,y∈o.op.operands→Rel w L (E y) (ε y))→ ∃vs:List Value,(execOp ε o).run P w= .ok (.enter f vs.toArray) w∧RelL w L args vs)
  (hk: ∀d H',Φ d H'→K d (H'++H)):Op1 P o E H K:=by
 refine⟨fun d H'=> ∃Hp',Φ d Hp'∧H'=Hp'++H,?_,fun d H' ⟨Hp',h1,h2⟩=>h2▸hk d Hp' h1⟩
 intro w L0 ε hi hx
 obtain⟨⟨fn,hf,hbody,hname⟩,h⟩:=h
 obtain⟨vs,hr,hargs⟩:=hrun w _ ε (fun fn hf hb hn xs w=>ZbY hf hb hn xs w) hx
 rw[hr]
 have same: ∀b,live [] (live H L0) b↔live H L0 b:=fun b=>by simp[live,Heap.blocks]
 have hlt: ∀b,b∈H.blocks→b<w.heap.size:=fun b hb=>hi.lt hb
 have hi1:HInv w (live H L0) []:=
  {rel:=fun b c hm=>by cases hm
   nodup:=v'5
   apart:=fun b hb=>by cases hb
   old:=fun b hl=>by
    rcases hl with hl|hl
    ·exact hi.old b hl
    ·exact hlt b hl}
 have hk1:Keeps w (live H L0) w (live [] (live H L0)):=Keeps.less fun b _ hl=>(same b).1 hl
 refine(h w (live H L0) _ hi1 (RelL.mono hk1 _ _ hargs)).mono ?_
 rintro e w' ⟨v,rfl,d,Hp',hΦ,hrel,hi',he⟩
 have hmem': ∀b,b∈(Hp'++H).blocks↔b∈Hp'.blocks∨b∈H.blocks:=fun b=>by simp[Heap.blocks]
 have hevo:Evo w H w' (Hp'++H):=
  ⟨he.os,he.tape,he.output,he.size,fun b hb hn=>he.block b hb (fun h=>by cases h),fun b hb=>by
   rcases(hmem' b).1 hb with h|h
   ·exact(he.fresh b h).imp (fun h=>by cases h) id
   ·exact .inl h⟩
 refine⟨v,rfl,d,Hp'++H,⟨Hp',hΦ,rfl⟩,?_,?_,hevo⟩
 ·refine Rel.mono (Keeps.less fun b _ hl=>?_) _ _ hrel
  rcases hl with hl|hl
  ·exact .inl (.inl (.inl hl))
  ·rcases(hmem' b).1 hl with hl|hl
   ·exact .inr hl
   ·exact .inl (.inl (.inr hl))
 ·exact
   {rel:=fun b c hm=>by
     rcases y'x.1 hm with hm|hm
     ·refine(hi'.rel b c hm).mono (Keeps.less fun b _ hl=>?_) rfl
      rcases hl with hl|hl
      ·exact .inl (.inl hl)
      ·rcases(hmem' b).1 hl with hl|hl
       ·exact .inr hl
       ·exact .inl (.inr hl)
     ·have hbr:b∈H.blocks:=z'y.2 ⟨(b,c),hm,rfl⟩
      exact(hi.rel b c hm).mono hevo.keeps (he.block b (hlt b hbr) (fun h=>by cases h))
    nodup:=by
     simp only[Heap.blocks,z'F]
     refine x'J.2 ⟨hi'.nodup,hi.nodup,fun a ha b hb hab=>?_⟩
     subst hab
     rcases he.fresh a ha with h|h
     ·cases h
     ·have:=hlt a hb;omega
    apart:=fun b hb hl=>by
     rcases(hmem' b).1 hb with h|h
     ·exact hi'.apart b h (.inl hl)
     ·exact hi.apart b h hl
    old:=fun b hl=>y'h (hi.old b hl) he.size}
theorem Op1.invoke {P:Program} {o:Oper} {E:Operand→D} {f:FuncId} {x:Operand} {name:String} {xs:Array Operand} {tys:Array TypeId} {t:TypeId} {dv:D} {args:List D} {H:Heap} {fr:Bool} {Φ:D→Heap→Prop} {K:D→Heap→Prop}
  (ho:o.op= .call ⟨.invoke x name,xs,tys⟩) (hE:E x= .ifc t dv) (hm:ZcI P t name=some f) (h:Fun P f args [] fr Φ) (ha:dv::xs.toList.map E=args) (hk: ∀d H',Φ d H'→K d (H'++H)):Op1 P o E H K:=by
 subst ha
 have hF:=h.1
 obtain⟨fn,hf,hb,hn⟩:=hF
 refine Op1.enterG h (fun w L ε hc hx=>?_) hk
 have hr:=hx x (by simp[ho,Op.operands,Call.operands])
 rw[hE]at hr
 obtain⟨y,hy,hrel⟩:=hr
 refine⟨y::xs.toList.map ε,?_,y,_,rfl,hrel,?_⟩
 ·have e:(y::xs.toList.map ε).toArray= #[y]++xs.map ε:=by
   rw[←Array.toList_map]
   apply Array.ext'
   simp
  rw[e, ←hc fn hf hb hn (#[y]++xs.map ε) w]
  have hmr:=Zkh hm (P.types.size+99) y w
  have hex:(#[ε x]++xs.map ε).extract 1 (#[ε x]++xs.map ε).size=xs.map ε:=by
   apply Array.ext'
   simp
   exact z'V (by simp)
  have h0:(#[ε x]++xs.map ε)[0]?=some (ε x):=by
   rw[Array.getElem?_append_left (by simp)]
   rfl
  rw[hy]at h0 hex
  simp only[execOp,ho,resolve]
  rw[z'n (a:={target:= .fn (.method name) #[],args:= #[ε x]++xs.map ε}) (w':=w) rfl]
  simp only[Go.invoke,h0,hex,hy,callMethod]
  rw[z'n (a:=P) (w':=w) rfl]
  have hmr':(method (P.types.size+Made.depth) t y name).run P w= .ok (f,y) w:=hmr
  rw[z'n hmr']
 ·have: ∀l:List Operand,(∀x∈l,x∈xs.toList)→RelL w L (l.map E) (l.map ε):=by
   intro l
   induction l with
   |nil=>intro _;rfl
   |cons x l ih=>
    intro hl
    refine⟨ε x,l.map ε,rfl,hx x ?_,ih fun y hy=>hl y (z'e _ hy)⟩
    have:=hl x (z'C ..)
    simp only[ho,Op.operands,Call.operands]
    exact Array.mem_append.2 (.inr (w'p.1 this))
  exact this _ fun _ h=>h
theorem Op1.invokep {P:Program} {o:Oper} {E:Operand→D} {f:FuncId} {x:Operand} {name:String} {xs:Array Operand} {tys:Array TypeId} {t:TypeId} {dv d0:D} {args:List D} {H:Heap} {fr:Bool} {K:D→Heap→Prop}
  (ho:o.op= .call ⟨.invoke x name,xs,tys⟩) (hE:E x= .ifc t dv) (hm:ZcI P t name=some f) (h:Fun P f args [] fr (fun d H'=>d=d0∧H'=[])) (ha:dv::xs.toList.map E=args) (hk:K d0 H):Op1 P o E H K:=
 Op1.invoke ho hE hm h ha fun d H' ⟨h1,h2⟩=>by subst h1;subst h2;exact hk
end Go.Vc
/- Contracts: whether a thread is at its end (chapter 11). No condition. -/
namespace Go.Proofs.YtomcmfbpmkklmaaGreat
set_option maxHeartbeats 16000000
set_option linter.unusedSimpArgs false
set_option linter.unusedVariables false
set_option maxRecDepth 20000
open Go Go.Proofs Go.Vc
attribute [local irreducible] y'0 VCg VCw VCx
def x'N (u:Un) (c:Cf) (t:Int):Bool:=match decide (0≤t),u.code[t.toNat]?,c.pc[t.toNat]? with
 |true,some r,some p=>(match decide (0≤p),r[p.toNat]? with|true,some x=>x.op == 22|_,_=>false)
 |_,_,_=>false
theorem Zls (u:Un) (c:Cf) (t:Int):Pure Tryz.prog 132 [.agg (unC u),.agg (cfC c),iD t] (bD (x'N u c t)):=by
 refine Fun.of T [.tmp 6] Tryz.func132 rfl Tryz.ntmps132 Tryz.results132 rfl (by kernel_rfl) ?_
 by_cases h1:t<0
 ·have e1:decide (t<0)=true:=by simpa using h1
  have hr:x'N u c t=false:=by simp[x'N,x'd.2 h1]
  rw[hr]
  repeat' first|refine vb rfl rfl rfl rfl ?_|refine dr (id:=1) T 36 (by kernel_rfl) ?_|refine gn ?_|(apply VCg.step T rfl rfl);focus((try simp (disch:=omega) only[go_sem,Nat.reduceBEq,e1]);(exact rfl))|refine VCg.gstep T rfl rfl rfl rfl ?_;try simp only[GB]|refine vs T rfl fun K hK=>?_;(try simp (disch:=omega) only[go_sem,Nat.reduceBEq,Nat.reduceAdd]);(refine hK _ _ ?_;clear hK K)|refine st rfl ?_|refine sc rfl ?_|refine nl ?_|refine gs rfl rfl ?_|exact z'j T (z'a _) ⟨rfl,rfl⟩
 have e1:decide (t<0)=false:=by simpa using h1
 obtain⟨i,rfl⟩: ∃i:Nat,t=(i:Int):=⟨t.toNat,by omega⟩
 by_cases h2:(i:Int)≥(u.code.length:Int)
 ·have e2:decide ((i:Int)≥(u.code.length:Int))=true:=by simpa using h2
  have hn:u.code[i]?=none:=z'x (by omega)
  have hr:x'N u c i=false:=by simp[x'N,hn]
  rw[hr]
  repeat' first|refine vb rfl rfl rfl rfl ?_|refine dr (id:=1) T 36 (by kernel_rfl) ?_|refine gn ?_|(first|apply VCg.step T rfl rfl|apply exF);focus((try simp (disch:=omega) only[go_sem,Nat.reduceBEq,e1,e2,z'H]);(exact rfl))|refine VCg.gstep T rfl rfl rfl rfl ?_;try simp only[GB]|refine vs T rfl fun K hK=>?_;(try simp (disch:=omega) only[go_sem,Nat.reduceBEq,Nat.reduceAdd]);(refine hK _ _ ?_;clear hK K)|refine st rfl ?_|refine sc rfl ?_|refine nl ?_|refine gs rfl rfl ?_|exact z'j T (z'a _) ⟨rfl,rfl⟩
 have e2:decide ((i:Int)≥(u.code.length:Int))=false:=by simpa using h2
 by_cases h3:(i:Int)≥(c.pc.length:Int)
 ·have e3:decide ((i:Int)≥(c.pc.length:Int))=true:=by simpa using h3
  have hn:c.pc[i]?=none:=z'x (by omega)
  have hr:x'N u c i=false:=by
   unfold x'N
   rw[show((i:Int)).toNat=i from rfl,hn]
   split<;>simp_all
  rw[hr]
  repeat' first|refine vb rfl rfl rfl rfl ?_|refine dr (id:=1) T 36 (by kernel_rfl) ?_|refine gn ?_|(first|apply VCg.step T rfl rfl|apply exF);focus((try simp (disch:=omega) only[go_sem,Nat.reduceBEq,e1,e2,e3,z'H,z'l]);(exact rfl))|refine VCg.gstep T rfl rfl rfl rfl ?_;try simp only[GB]|refine vs T rfl fun K hK=>?_;(try simp (disch:=omega) only[go_sem,Nat.reduceBEq,Nat.reduceAdd]);(refine hK _ _ ?_;clear hK K)|refine st rfl ?_|refine sc rfl ?_|refine nl ?_|refine gs rfl rfl ?_|exact z'j T (z'a _) ⟨rfl,rfl⟩
 have e3:decide ((i:Int)≥(c.pc.length:Int))=false:=by simpa using h3
 have hil:i<u.code.length:=by omega
 have hip:i<c.pc.length:=by omega
 obtain⟨r,hr⟩: ∃r,u.code[i]?=some r:=⟨_,z'b hil⟩
 obtain⟨p,hp⟩: ∃p,c.pc[i]?=some p:=⟨_,z'b hip⟩
 have rr:(x'6 u.code)[i]?=some [.sl false 7 (y'J r)]:=by rw[x'C,hr];rfl
 have rp:(iRs c.pc)[i]?=some [iD p]:=by rw[y'y,hp];rfl
 by_cases h4:p<0
 ·have e4:decide (p<0)=true:=by simpa using h4
  have hE:x'N u c i=false:=by simp[x'N,hr,hp,x'd.2 h4]
  rw[hE]
  repeat' first|refine vb rfl rfl rfl rfl ?_|refine dr (id:=1) T 36 (by kernel_rfl) ?_|refine gn ?_|(first|apply VCg.step T rfl rfl|apply exF);focus((try simp (disch:=omega) only[go_sem,Nat.reduceBEq,e1,e2,e3,e4,rp,z'H,z'l]);(first|exact rfl|refine⟨?_,rfl⟩;try omega))|refine VCg.gstep T rfl rfl rfl rfl ?_;try simp only[GB]|refine vs T rfl fun K hK=>?_;(try simp (disch:=omega) only[go_sem,Nat.reduceBEq,Nat.reduceAdd]);(refine hK _ _ ?_;clear hK K)|refine st rfl ?_|refine sc rfl ?_|refine nl ?_|refine gs rfl rfl ?_|exact z'j T (z'a _) ⟨rfl,rfl⟩
 have e4:decide (p<0)=false:=by simpa using h4
 obtain⟨q,rfl⟩: ∃q:Nat,p=(q:Int):=⟨p.toNat,by omega⟩
 by_cases h5:(q:Int)≥(r.length:Int)
 ·have e5:decide ((q:Int)≥(r.length:Int))=true:=by simpa using h5
  have hn:r[q]?=none:=z'x (by omega)
  have hE:x'N u c i=false:=by simp[x'N,hr,hp,hn]
  rw[hE]
  repeat' first|refine vb rfl rfl rfl rfl ?_|refine dr (id:=1) T 36 (by kernel_rfl) ?_|refine gn ?_|(first|apply VCg.step T rfl rfl|apply exF);focus((try simp (disch:=omega) only[go_sem,Nat.reduceBEq,e1,e2,e3,e4,rr,rp,z'H,z'l,z'U]);(first|exact rfl|refine⟨?_,rfl⟩;try omega))|refine VCg.gstep T rfl rfl rfl rfl ?_;try simp only[GB]|refine vs T rfl fun K hK=>?_;(try simp (disch:=omega) only[go_sem,Nat.reduceBEq,Nat.reduceAdd,e5]);(refine hK _ _ ?_;clear hK K)|refine st rfl ?_|refine sc rfl ?_|refine nl ?_|refine gs rfl rfl ?_|exact z'j T (z'a _) ⟨rfl,rfl⟩
 have e5:decide ((q:Int)≥(r.length:Int))=false:=by simpa using h5
 have hql:q<r.length:=by omega
 obtain⟨x,hx⟩: ∃x,r[q]?=some x:=⟨_,z'b hql⟩
 have rx:(y'J r)[q]?=some [iD x.op,iD x.reg,iD x.loc,z'R x.e,z'R x.f,bD x.ne,iD x.to]:=by rw[x'V,hx];rfl
 have hE:x'N u c i=(x.op == 22):=by simp[x'N,hr,hp,hx]
 rw[hE]
 repeat' first|refine vb rfl rfl rfl rfl ?_|refine dr (id:=1) T 36 (by kernel_rfl) ?_|refine dr (id:=3) T 10 (by kernel_rfl) ?_|refine gn ?_|(first|apply VCg.step T rfl rfl|apply exF);focus((try simp (disch:=omega) only[go_sem,Nat.reduceBEq,e1,e2,e3,e4,rr,rp,z'H,z'l,z'U]);(first|exact rfl|refine⟨?_,rfl⟩;try omega))|refine VCg.gstep T rfl rfl rfl rfl ?_;try simp only[GB]|refine vs T rfl fun K hK=>?_;(try simp (disch:=omega) only[go_sem,Nat.reduceBEq,Nat.reduceAdd,e5,rx,z'U]);(first|refine hK _ _ ?_;clear hK K|refine⟨?_,hK _ _ ?_⟩<;>clear hK K;focus(try omega))|refine st rfl ?_|refine sc rfl ?_|refine nl ?_|refine gs rfl rfl ?_|exact z'j T (z'a _) ⟨rfl,rfl⟩
theorem Zm7 (u:Un) (c:Cf) (t:Int):Pure Tryz.prog 130 [.agg (unC u),.agg (cfC c),iD t] (bD (x'N u c t)):=by
 refine Fun.of T [.tmp 6] Tryz.func130 rfl Tryz.ntmps130 Tryz.results130 rfl (by kernel_rfl) ?_
 by_cases h1:t<0
 ·have e1:decide (t<0)=true:=by simpa using h1
  rw[show x'N u c t=false by simp[x'N,x'd.2 h1]]
  repeat' first|refine vb rfl rfl rfl rfl ?_|refine vs T rfl fun K hK=>?_;(try simp (disch:=omega) only[go_sem,Nat.reduceBEq,Nat.reduceAdd,e1]);(refine hK _ _ ?_;clear hK K)|refine st rfl ?_|refine sc rfl ?_|refine nl ?_|refine gs rfl rfl ?_|exact z'j T (z'a _) ⟨rfl,rfl⟩
 have e1:decide (t<0)=false:=by simpa using h1
 obtain⟨i,rfl⟩: ∃i:Nat,t=(i:Int):=⟨t.toNat,by omega⟩
 by_cases h2:(i:Int)≥(u.code.length:Int)
 ·have e2:decide ((i:Int)≥(u.code.length:Int))=true:=by simpa using h2
  have hn:u.code[i]?=none:=z'x (by omega)
  rw[show x'N u c i=false by simp[x'N,hn]]
  repeat' first|refine vb rfl rfl rfl rfl ?_|refine vs T rfl fun K hK=>?_;(try simp (disch:=omega) only[go_sem,Nat.reduceBEq,Nat.reduceAdd,e1,e2,z'H]);(refine hK _ _ ?_;clear hK K)|refine st rfl ?_|refine sc rfl ?_|refine nl ?_|refine gs rfl rfl ?_|exact z'j T (z'a _) ⟨rfl,rfl⟩
 have e2:decide ((i:Int)≥(u.code.length:Int))=false:=by simpa using h2
 by_cases h3:(i:Int)≥(c.pc.length:Int)
 ·have e3:decide ((i:Int)≥(c.pc.length:Int))=true:=by simpa using h3
  have hn:c.pc[i]?=none:=z'x (by omega)
  rw[show x'N u c i=false by simp[x'N,hn]]
  repeat' first|refine vb rfl rfl rfl rfl ?_|refine vs T rfl fun K hK=>?_;(try simp (disch:=omega) only[go_sem,Nat.reduceBEq,Nat.reduceAdd,e1,e2,e3,z'H,z'l]);(refine hK _ _ ?_;clear hK K)|refine st rfl ?_|refine sc rfl ?_|refine nl ?_|refine gs rfl rfl ?_|exact z'j T (z'a _) ⟨rfl,rfl⟩
 have e3:decide ((i:Int)≥(c.pc.length:Int))=false:=by simpa using h3
 obtain⟨r,hr⟩: ∃r,u.code[i]?=some r:=⟨_,z'b (by omega)⟩
 obtain⟨p,hp⟩: ∃p,c.pc[i]?=some p:=⟨_,z'b (by omega)⟩
 have rr:(x'6 u.code)[i]?=some [.sl false 7 (y'J r)]:=by rw[x'C,hr];rfl
 have rp:(iRs c.pc)[i]?=some [iD p]:=by rw[y'y,hp];rfl
 have l1:i<u.code.length:=by omega
 have l2:i<c.pc.length:=by omega
 by_cases h4:p<0
 ·have e4:decide (p≥0)=false:=by simp;omega
  rw[show x'N u c i=false by simp[x'N,hr,hp,x'd.2 h4]]
  repeat' first|refine vb rfl rfl rfl rfl ?_|refine vs T rfl fun K hK=>?_;(try simp (disch:=omega) only[go_sem,Nat.reduceBEq,Nat.reduceAdd,e1,e2,e3,e4,rp,z'H,z'l]);(first|refine hK _ _ ?_;clear hK K|refine⟨?_,hK _ _ ?_⟩<;>clear hK K;focus(try omega))|refine st rfl ?_|refine sc rfl ?_|refine nl ?_|refine gs rfl rfl ?_|exact z'j T (z'a _) ⟨rfl,rfl⟩
 have e4:decide (p≥0)=true:=by simp;omega
 obtain⟨q,rfl⟩: ∃q:Nat,p=(q:Int):=⟨p.toNat,by omega⟩
 by_cases h5:(q:Int)<(r.length:Int)
 case neg=>
  have e5:decide ((q:Int)<(r.length:Int))=false:=by simpa using h5
  have hn:r[q]?=none:=z'x (by omega)
  rw[show x'N u c i=false by simp[x'N,hr,hp,hn]]
  repeat' first|refine vb rfl rfl rfl rfl ?_|refine vs T rfl fun K hK=>?_;(try simp (disch:=omega) only[go_sem,Nat.reduceBEq,Nat.reduceAdd,e1,e2,e3,e4,e5,rr,rp,z'H,z'l,z'U]);(first|refine hK _ _ ?_;clear hK K|refine⟨?_,hK _ _ ?_⟩<;>clear hK K;focus(try omega))|refine st rfl ?_|refine sc rfl ?_|refine nl ?_|refine gs rfl rfl ?_|exact z'j T (z'a _) ⟨rfl,rfl⟩
 have e5:decide ((q:Int)<(r.length:Int))=true:=by simpa using h5
 obtain⟨x,hx⟩: ∃x,r[q]?=some x:=⟨_,z'b (by omega)⟩
 have rx:(y'J r)[q]?=some [iD x.op,iD x.reg,iD x.loc,z'R x.e,z'R x.f,bD x.ne,iD x.to]:=by rw[x'V,hx];rfl
 have l3:q<r.length:=by omega
 rw[show x'N u c i=(x.op == 22) by simp[x'N,hr,hp,hx]]
 repeat' first|refine vb rfl rfl rfl rfl ?_|refine vs T rfl fun K hK=>?_;(try simp (disch:=omega) only[go_sem,Nat.reduceBEq,Nat.reduceAdd,e1,e2,e3,e4,e5,rr,rp,rx,z'H,z'l,z'U]);(first|refine hK _ _ ?_;clear hK K|refine⟨?_,hK _ _ ?_⟩<;>clear hK K;focus(try omega))|refine st rfl ?_|refine sc rfl ?_|refine nl ?_|refine gs rfl rfl ?_|exact z'j T (z'a _) ⟨rfl,rfl⟩
theorem ZlU (c:Cf) (hn:c.bufs.length≤1000000):Pure Tryz.prog 131 [.agg (cfC c)] (bD (ZbE c)):=by
 refine Fun.of T [.tmp 2] Tryz.func131 rfl Tryz.ntmps131 Tryz.results131 rfl (by kernel_rfl) ?_
 repeat' first|refine vb rfl rfl rfl rfl ?_|refine vs T rfl fun K hK=>?_;(try simp (disch:=omega) only[go_sem,Nat.reduceBEq,z'J]);(refine hK _ _ ?_;clear hK K)|refine st rfl ?_|refine nl ?_
 refine VC.loop {k:Nat//k≤c.bufs.length∧ ∀(i:Nat) (y:List En),i<k→c.bufs[i]?=some y→decide (y.length=0)=true} (fun p=>⟨z'M [(1,.pt (cfC c)),(6,.sl false 1 (y'U c.bufs)),(7,iD (c.bufs.length:Nat)),(8,iD (p.1:Nat))],[]⟩) (fun p=>c.bufs.length-p.1) ⟨0,by omega,fun i y hi=>by omega⟩ ?_ ?_
 ·refine Weak.sub ?_
  simp[sub,upd]
 ·rintro⟨k,hk,hs⟩
  dsimp only
  rcases z'g k c.bufs.length with hlt|hge
  ·have hd:decide ((k:Int)<(c.bufs.length:Int))=true:=by simp;omega
   have hw:IntKind.i64.wrap ((k:Int)+1)=((k+1:Nat):Int):=by rw[w64 (by omega)];omega
   obtain⟨b,hb⟩: ∃b,c.bufs[k]?=some b:=⟨_,z'b hlt⟩
   have rb:(y'U c.bufs)[k]?=some [buf b]:=by rw[y'P,hb];rfl
   by_cases h0:b.length=0
   ·have e0:decide ((b.length:Int)>0)=false:=by rw[h0];rfl
    repeat' first|refine vs T rfl fun K hK=>?_;(try simp (disch:=omega) only[go_sem,Nat.reduceBEq,hd,hw,rb,e0,z'J,z't]);(first|refine hK _ _ ?_;clear hK K|refine⟨?_,hK _ _ ?_⟩<;>clear hK K;focus(try omega))|refine st rfl ?_|refine sc rfl ?_|refine nl ?_
    refine⟨⟨k+1,by omega,v'W hs hb (by simpa using h0)⟩,Weak.sub ?_,by simp only[];omega⟩
    simp[sub,upd]
   ·have e0:decide ((b.length:Int)>0)=true:=by simp;omega
    rw[show ZbE c=false from v'g hb (by simpa using h0)]
    repeat' first|refine vs T rfl fun K hK=>?_;(try simp (disch:=omega) only[go_sem,Nat.reduceBEq,hd,rb,e0,z'J,z't]);(first|refine hK _ _ ?_;clear hK K|refine⟨?_,hK _ _ ?_⟩<;>clear hK K;focus(try omega))|refine st rfl ?_|refine sc rfl ?_|refine nl ?_|exact z'j T (z'a _) ⟨rfl,rfl⟩
  ·have hd:decide ((k:Int)<(c.bufs.length:Int))=false:=by simp;omega
   rw[show ZbE c=true from ZaC fun i x hi hx=>hs i x (by omega) hx]
   repeat' first|refine vs T rfl fun K hK=>?_;(try simp (disch:=omega) only[go_sem,Nat.reduceBEq,hd]);(refine hK _ _ ?_;clear hK K)|refine st rfl ?_|refine sc rfl ?_|refine nl ?_|exact z'j T (z'a _) ⟨rfl,rfl⟩
def x'8 (u:Un) (c:Cf):Bool:=((List.range u.code.length).all fun t=>x'N u c (t:Nat))&&ZbE c
theorem Zf8 {n:Nat} {p:Nat→Bool} (h: ∀i,i<n→p i=true):(List.range n).all p=true:=by
 rw[z'B]
 exact fun x hx=>h x (z'K.1 hx)
theorem Zgo {n i:Nat} {p:Nat→Bool} (hi:i<n) (h:p i=false):(List.range n).all p=false:=by
 rw[w'T]
 exact⟨i,z'K.2 hi,by simp[h]⟩
theorem Zh0 (u:Un) (c:Cf) (hu:u.code.length≤1000000) (hn:c.bufs.length≤1000000):Pure Tryz.prog 93 [.agg (unC u),.agg (cfC c)] (bD (x'8 u c)):=by
 have cq:=ZlU c hn
 refine Fun.of T [.tmp 4] Tryz.func93 rfl Tryz.ntmps93 Tryz.results93 rfl (by kernel_rfl) ?_
 repeat' first|refine vb rfl rfl rfl rfl ?_|refine vs T rfl fun K hK=>?_;(try simp (disch:=omega) only[go_sem,Nat.reduceBEq,z'H]);(refine hK _ _ ?_;clear hK K)|refine st rfl ?_|refine nl ?_
 refine VC.loop {k:Nat//k≤u.code.length∧ ∀i,i<k→x'N u c (i:Nat)=true} (fun p=>⟨z'M [(2,.pt (unC u)),(3,.pt (cfC c)),(8,iD (u.code.length:Nat)),(9,iD (p.1:Nat))],[]⟩) (fun p=>u.code.length-p.1) ⟨0,by omega,fun i hi=>by omega⟩ ?_ ?_
 ·refine Weak.sub ?_
  simp[sub,upd]
 rintro⟨k,hk,hs⟩
 dsimp only
 rcases z'g k u.code.length with hlt|hge
 ·have hd:decide ((k:Int)<(u.code.length:Int))=true:=by simp;omega
  have hw:IntKind.i64.wrap ((k:Int)+1)=((k+1:Nat):Int):=by rw[w64 (by omega)];omega
  have ce:=Zm7 u c (k:Nat)
  cases hE:x'N u c (k:Nat)with
  |false=>
   rw[hE]at ce
   rw[show x'8 u c=false by rw[x'8,Zgo hlt hE];rfl]
   repeat' first|refine vs T rfl fun K hK=>?_;(try simp (disch:=omega) only[go_sem,Nat.reduceBEq,Nat.reduceAdd,Nat.reduceLeDiff,hd,z'q]);(first|refine hK _ _ ?_;clear hK K|refine Op1.callp rfl rfl (ce) rfl ?_;refine hK _ _ ?_;clear hK K)|refine st rfl ?_|refine sc rfl ?_|refine nl ?_|exact z'j T (z'a _) ⟨rfl,rfl⟩
  |true=>
   rw[hE]at ce
   repeat' first|refine vs T rfl fun K hK=>?_;(try simp (disch:=omega) only[go_sem,Nat.reduceBEq,Nat.reduceAdd,Nat.reduceLeDiff,hd,hw,z'i]);(first|refine hK _ _ ?_;clear hK K|refine Op1.callp rfl rfl (ce) rfl ?_;refine hK _ _ ?_;clear hK K)|refine st rfl ?_|refine sc rfl ?_|refine nl ?_
   refine⟨⟨k+1,by omega,fun i hi=>?_⟩,Weak.sub ?_,by simp only[];omega⟩
   ·rcases z'g i k with h|h
    ·exact hs i h
    ·obtain rfl:i=k:=by omega
     exact hE
   ·simp[sub,upd]
 have hd:decide ((k:Int)<(u.code.length:Int))=false:=by simp;omega
 rw[show x'8 u c=ZbE c by rw[x'8,Zf8 fun i hi=>hs i (by omega),y'Z]]
 repeat' first|refine vs T rfl fun K hK=>?_;(try simp (disch:=omega) only[go_sem,Nat.reduceBEq,Nat.reduceAdd,Nat.reduceLeDiff,hd]);(first|refine hK _ _ ?_;clear hK K|refine Op1.callp rfl rfl (cq) rfl ?_;refine hK _ _ ?_;clear hK K)|refine st rfl ?_|refine sc rfl ?_|refine nl ?_|exact z'j T (z'a _) ⟨rfl,rfl⟩
theorem ZhG (u:Un) (c:Cf) (hu:u.code.length≤1000000) (hn:c.bufs.length≤1000000):Pure Tryz.prog 94 [.agg (unC u),.agg (cfC c)] (bD (x'8 u c)):=by
 have cq:=Zlw c hn
 refine Fun.of T [.tmp 4] Tryz.func94 rfl Tryz.ntmps94 Tryz.results94 rfl (by kernel_rfl) ?_
 repeat' first|refine vb rfl rfl rfl rfl ?_|refine vs T rfl fun K hK=>?_;(try simp (disch:=omega) only[go_sem]);(refine hK _ _ ?_;clear hK K)|refine st rfl ?_|refine nl ?_
 refine VC.loop {k:Nat//k≤u.code.length∧ ∀i,i<k→x'N u c (i:Nat)=true} (fun p=>⟨z'M [(2,.pt (unC u)),(3,.pt (cfC c)),(5,iD (p.1:Nat))],[]⟩) (fun p=>u.code.length-p.1) ⟨0,by omega,fun i hi=>by omega⟩ ?_ ?_
 ·refine Weak.sub ?_
  simp[sub,upd]
 rintro⟨k,hk,hs⟩
 dsimp only
 rcases z'g k u.code.length with hlt|hge
 ·have hd:decide ((k:Int)<(u.code.length:Int))=true:=by simp;omega
  have hw:IntKind.i64.wrap ((k:Int)+1)=((k+1:Nat):Int):=by rw[w64 (by omega)];omega
  have ce:=Zls u c (k:Nat)
  cases hE:x'N u c (k:Nat)with
  |false=>
   rw[hE]at ce
   rw[show x'8 u c=false by rw[x'8,Zgo hlt hE];rfl]
   repeat' first|refine vs T rfl fun K hK=>?_;(try simp (disch:=omega) only[go_sem,Nat.reduceBEq,Nat.reduceAdd,Nat.reduceLeDiff,hd,z'H,z'q]);(first|refine hK _ _ ?_;clear hK K|refine Op1.callp rfl rfl (ce) rfl ?_;refine hK _ _ ?_;clear hK K)|refine st rfl ?_|refine sc rfl ?_|refine nl ?_|exact z'j T (z'a _) ⟨rfl,rfl⟩
  |true=>
   rw[hE]at ce
   repeat' first|refine vs T rfl fun K hK=>?_;(try simp (disch:=omega) only[go_sem,Nat.reduceBEq,Nat.reduceAdd,Nat.reduceLeDiff,hd,hw,z'H,z'i]);(first|refine hK _ _ ?_;clear hK K|refine Op1.callp rfl rfl (ce) rfl ?_;refine hK _ _ ?_;clear hK K)|refine st rfl ?_|refine sc rfl ?_|refine nl ?_
   refine⟨⟨k+1,by omega,fun i hi=>?_⟩,Weak.sub ?_,by simp only[];omega⟩
   ·rcases z'g i k with h|h
    ·exact hs i h
    ·obtain rfl:i=k:=by omega
     exact hE
   ·simp[sub,upd]
 have hd:decide ((k:Int)<(u.code.length:Int))=false:=by simp;omega
 rw[show x'8 u c=ZbE c by rw[x'8,Zf8 fun i hi=>hs i (by omega),y'Z]]
 repeat' first|refine vs T rfl fun K hK=>?_;(try simp (disch:=omega) only[go_sem,Nat.reduceBEq,Nat.reduceAdd,Nat.reduceLeDiff,hd,z'H]);(first|refine hK _ _ ?_;clear hK K|refine Op1.callp rfl rfl (cq) rfl ?_;refine hK _ _ ?_;clear hK K)|refine st rfl ?_|refine sc rfl ?_|refine nl ?_|exact z'j T (z'a _) ⟨rfl,rfl⟩
end Go.Proofs.YtomcmfbpmkklmaaGreat
