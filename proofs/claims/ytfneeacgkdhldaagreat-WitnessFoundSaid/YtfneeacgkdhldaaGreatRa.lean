/- Contracts: numbers in digits. No condition. -/
import Derived.Test.YtfneeacgkdhldaaGreatWb
import Derived.Test.YtfneeacgkdhldaaGreatWa
import Derived.Test.YtfneeacgkdhldaaGreatXe
namespace Go.Proofs.YtfneeacgkdhldaaGreat
set_option maxHeartbeats 16000000
set_option linter.unusedSimpArgs false
set_option linter.unusedVariables false
open Go Go.Proofs Go.Vc
attribute [local irreducible] y'5 VCg VCw VCx
end Go.Proofs.YtfneeacgkdhldaaGreat
/- Calls through interfaces. No condition. -/
namespace Go.Vc
set_option maxHeartbeats 16000000
set_option linter.unusedSimpArgs false
set_option linter.unusedVariables false
open Go
def Zb7 (P:Program) (t:TypeId) (name:String):Option FuncId:=
 match P.info? t,P.underlying t with
 |some i,some d=>(match d with
  | .pointer _=>none
  |_=>match i.methods.find? (·.name == name)with
   |some m=>(match m.path.toList,m.func with
    |[],some (f,false)=>some f
    |_,_=>none)
   |none=>none)
 |_,_=>none
theorem Zii {P:Program} {t:TypeId} {i:TypeInfo} (h:P.info? t=some i) (w:World):(typeInfo t).run P w= .ok i w:=by
 unfold typeInfo
 rw[z'q (a:=P) (w':=w) rfl]
 simp only[h]
 rfl
theorem Zj2 {P:Program} {t:TypeId} {name:String} {f:FuncId} (h:Zb7 P t name=some f) (n:Nat) (v:Value) (w:World):(method (n+1) t v name).run P w= .ok (f,v) w:=by
 unfold Zb7 at h
 split at h
 ·rename_i i d hi hd
  split at h
  ·cases h
  rename_i hnp
  split at h
  ·rename_i m hm
   split at h
   ·rename_i f' hp hf
    cases h
    unfold method
    rw[z'q (Zii hi w)]
    simp only[hm]
    rw[hp]
    simp only[follow]
    rw[z'q (a:=(t,Place.val v)) (w':=w) rfl]
    simp only[hf]
    unfold receiverAt
    refine(z'q (a:=v) (w':=w) ?_).trans rfl
    rw[z'q (run_underlying hd w)]
    split
    all_goals first|rfl|(exfalso;simp_all;done)|skip
   ·cases h
  ·cases h
 ·cases h
theorem Op1.enterG {P:Program} {o:Oper} {E:Operand→D} {f:FuncId} {args:List D} {H:Heap} {fr:Bool} {Φ:D→Heap→Prop} {K:D→Heap→Prop} (h:Fun P f args [] fr Φ)
  (hrun: ∀(w:World) (L:Nat→Prop) (ε:Operand→Value),(∀fn,P.funcs[f]?=some fn→fn.body.isSome=true→(fn.name == "runtime.NumGoroutine")=false→ ∀(xs:Array Value) (w:World),(callFunc f xs).run P w= .ok (.enter f xs) w)→
   (∀y,y∈o.op.operands→Rel w L (E y) (ε y))→ ∃vs:List Value,(execOp ε o).run P w= .ok (.enter f vs.toArray) w∧RelL w L args vs)
  (hk: ∀d H',Φ d H'→K d (H'++H)):Op1 P o E H K:=by
 refine⟨fun d H'=> ∃Hp',Φ d Hp'∧H'=Hp'++H,?_,fun d H' ⟨Hp',h1,h2⟩=>h2▸hk d Hp' h1⟩
 intro w L0 ε hi hx
 obtain⟨⟨fn,hf,hbody,hname⟩,h⟩:=h
 obtain⟨vs,hr,hargs⟩:=hrun w _ ε (fun fn hf hb hn xs w=>ZaA hf hb hn xs w) hx
 rw[hr]
 have same: ∀b,live [] (live H L0) b↔live H L0 b:=fun b=>by simp[live,Heap.blocks]
 have hlt: ∀b,b∈H.blocks→b<w.heap.size:=fun b hb=>hi.lt hb
 have hi1:HInv w (live H L0) []:=
  {rel:=fun b c hm=>by cases hm
   nodup:=List.nodup_nil
   apart:=fun b hb=>by cases hb
   old:=fun b hl=>by
    rcases hl with hl|hl
    ·exact hi.old b hl
    ·exact hlt b hl}
 have hk1:Keeps w (live H L0) w (live [] (live H L0)):=Keeps.less fun b _ hl=>(same b).1 hl
 refine(h w (live H L0) _ hi1 (RelL.mono hk1 _ _ hargs)).mono ?_
 rintro e w' ⟨v,rfl,d,Hp',hΦ,hrel,hi',he⟩
 have hmem': ∀b,b∈(Hp'++H).blocks↔b∈Hp'.blocks∨b∈H.blocks:=fun b=>by simp[Heap.blocks]
 have hevo:Evo w H w' (Hp'++H):=
  ⟨he.os,he.tape,he.output,he.size,fun b hb hn=>he.block b hb (fun h=>by cases h),fun b hb=>by
   rcases(hmem' b).1 hb with h|h
   ·exact(he.fresh b h).imp (fun h=>by cases h) id
   ·exact .inl h⟩
 refine⟨v,rfl,d,Hp'++H,⟨Hp',hΦ,rfl⟩,?_,?_,hevo⟩
 ·refine Rel.mono (Keeps.less fun b _ hl=>?_) _ _ hrel
  rcases hl with hl|hl
  ·exact .inl (.inl (.inl hl))
  ·rcases(hmem' b).1 hl with hl|hl
   ·exact .inr hl
   ·exact .inl (.inl (.inr hl))
 ·exact
   {rel:=fun b c hm=>by
     rcases y'g.1 hm with hm|hm
     ·refine(hi'.rel b c hm).mono (Keeps.less fun b _ hl=>?_) rfl
      rcases hl with hl|hl
      ·exact .inl (.inl hl)
      ·rcases(hmem' b).1 hl with hl|hl
       ·exact .inr hl
       ·exact .inl (.inr hl)
     ·have hbr:b∈H.blocks:=z'y.2 ⟨(b,c),hm,rfl⟩
      exact(hi.rel b c hm).mono hevo.keeps (he.block b (hlt b hbr) (fun h=>by cases h))
    nodup:=by
     simp only[Heap.blocks,z'E]
     refine x'a.2 ⟨hi'.nodup,hi.nodup,fun a ha b hb hab=>?_⟩
     subst hab
     rcases he.fresh a ha with h|h
     ·cases h
     ·have:=hlt a hb;omega
    apart:=fun b hb hl=>by
     rcases(hmem' b).1 hb with h|h
     ·exact hi'.apart b h (.inl hl)
     ·exact hi.apart b h hl
    old:=fun b hl=>y'h (hi.old b hl) he.size}
theorem Op1.invoke {P:Program} {o:Oper} {E:Operand→D} {f:FuncId} {x:Operand} {name:String} {xs:Array Operand} {tys:Array TypeId} {t:TypeId} {dv:D} {args:List D} {H:Heap} {fr:Bool} {Φ:D→Heap→Prop} {K:D→Heap→Prop}
  (ho:o.op= .call ⟨.invoke x name,xs,tys⟩) (hE:E x= .ifc t dv) (hm:Zb7 P t name=some f) (h:Fun P f args [] fr Φ) (ha:dv::xs.toList.map E=args) (hk: ∀d H',Φ d H'→K d (H'++H)):Op1 P o E H K:=by
 subst ha
 have hF:=h.1
 obtain⟨fn,hf,hb,hn⟩:=hF
 refine Op1.enterG h (fun w L ε hc hx=>?_) hk
 have hr:=hx x (by simp[ho,Op.operands,Call.operands])
 rw[hE]at hr
 obtain⟨y,hy,hrel⟩:=hr
 refine⟨y::xs.toList.map ε,?_,y,_,rfl,hrel,?_⟩
 ·have e:(y::xs.toList.map ε).toArray= #[y]++xs.map ε:=by
   rw[←Array.toList_map]
   apply Array.ext'
   simp
  rw[e, ←hc fn hf hb hn (#[y]++xs.map ε) w]
  have hmr:=Zj2 hm (P.types.size+99) y w
  have hex:(#[ε x]++xs.map ε).extract 1 (#[ε x]++xs.map ε).size=xs.map ε:=by
   apply Array.ext'
   simp
   exact y'L (by simp)
  have h0:(#[ε x]++xs.map ε)[0]?=some (ε x):=by
   rw[Array.getElem?_append_left (by simp)]
   rfl
  rw[hy]at h0 hex
  simp only[execOp,ho,resolve]
  rw[z'q (a:={target:= .fn (.method name) #[],args:= #[ε x]++xs.map ε}) (w':=w) rfl]
  simp only[Go.invoke,h0,hex,hy,callMethod]
  rw[z'q (a:=P) (w':=w) rfl]
  have hmr':(method (P.types.size+Made.depth) t y name).run P w= .ok (f,y) w:=hmr
  rw[z'q hmr']
 ·have: ∀l:List Operand,(∀x∈l,x∈xs.toList)→RelL w L (l.map E) (l.map ε):=by
   intro l
   induction l with
   |nil=>intro _;rfl
   |cons x l ih=>
    intro hl
    refine⟨ε x,l.map ε,rfl,hx x ?_,ih fun y hy=>hl y (z'd _ hy)⟩
    have:=hl x (z'D ..)
    simp only[ho,Op.operands,Call.operands]
    exact Array.mem_append.2 (.inr (x'7.1 this))
  exact this _ fun _ h=>h
theorem Op1.invokep {P:Program} {o:Oper} {E:Operand→D} {f:FuncId} {x:Operand} {name:String} {xs:Array Operand} {tys:Array TypeId} {t:TypeId} {dv d0:D} {args:List D} {H:Heap} {fr:Bool} {K:D→Heap→Prop}
  (ho:o.op= .call ⟨.invoke x name,xs,tys⟩) (hE:E x= .ifc t dv) (hm:Zb7 P t name=some f) (h:Fun P f args [] fr (fun d H'=>d=d0∧H'=[])) (ha:dv::xs.toList.map E=args) (hk:K d0 H):Op1 P o E H K:=
 Op1.invoke ho hE hm h ha fun d H' ⟨h1,h2⟩=>by subst h1;subst h2;exact hk
end Go.Vc
/- Contracts: whether a thread is at its end (chapter 11). No condition. -/
namespace Go.Proofs.YtfneeacgkdhldaaGreat
set_option maxHeartbeats 16000000
set_option linter.unusedSimpArgs false
set_option linter.unusedVariables false
set_option maxRecDepth 20000
open Go Go.Proofs Go.Vc
attribute [local irreducible] y'5 VCg VCw VCx
def x'L (u:Un) (c:Cf) (t:Int):Bool:=match decide (0≤t),u.code[t.toNat]?,c.pc[t.toNat]? with
 |true,some r,some p=>(match decide (0≤p),r[p.toNat]? with|true,some x=>x.op == 22|_,_=>false)
 |_,_,_=>false
theorem Zlj (u:Un) (c:Cf) (t:Int):Pure Tryz.prog 63 [.agg (unC u),.agg (cfC c),iD t] (bD (x'L u c t)):=by
 refine Fun.of T [.tmp 6] Tryz.func63 rfl Tryz.ntmps63 Tryz.results63 rfl (by kernel_rfl) ?_
 by_cases h1:t<0
 ·have e1:decide (t<0)=true:=by simpa using h1
  have hr:x'L u c t=false:=by simp[x'L,y'e.2 h1]
  rw[hr]
  repeat' first|refine vb rfl rfl rfl rfl ?_|refine dr (id:=1) T 36 (by kernel_rfl) ?_|refine gn ?_|(apply VCg.step T rfl rfl);focus((try simp (disch:=omega) only[go_sem,Nat.reduceBEq,e1]);(exact rfl))|refine VCg.gstep T rfl rfl rfl rfl ?_;try simp only[GB]|refine vs T rfl fun K hK=>?_;(try simp (disch:=omega) only[go_sem,Nat.reduceBEq,Nat.reduceAdd]);(refine hK _ _ ?_;clear hK K)|refine st rfl ?_|refine sc rfl ?_|refine nl ?_|refine gs rfl rfl ?_|exact z'n T (z'a _) ⟨rfl,rfl⟩
 have e1:decide (t<0)=false:=by simpa using h1
 obtain⟨i,rfl⟩: ∃i:Nat,t=(i:Int):=⟨t.toNat,by omega⟩
 by_cases h2:(i:Int)≥(u.code.length:Int)
 ·have e2:decide ((i:Int)≥(u.code.length:Int))=true:=by simpa using h2
  have hn:u.code[i]?=none:=z'z (by omega)
  have hr:x'L u c i=false:=by simp[x'L,hn]
  rw[hr]
  repeat' first|refine vb rfl rfl rfl rfl ?_|refine dr (id:=1) T 36 (by kernel_rfl) ?_|refine gn ?_|(first|apply VCg.step T rfl rfl|apply exF);focus((try simp (disch:=omega) only[go_sem,Nat.reduceBEq,e1,e2,z'Q]);(exact rfl))|refine VCg.gstep T rfl rfl rfl rfl ?_;try simp only[GB]|refine vs T rfl fun K hK=>?_;(try simp (disch:=omega) only[go_sem,Nat.reduceBEq,Nat.reduceAdd]);(refine hK _ _ ?_;clear hK K)|refine st rfl ?_|refine sc rfl ?_|refine nl ?_|refine gs rfl rfl ?_|exact z'n T (z'a _) ⟨rfl,rfl⟩
 have e2:decide ((i:Int)≥(u.code.length:Int))=false:=by simpa using h2
 by_cases h3:(i:Int)≥(c.pc.length:Int)
 ·have e3:decide ((i:Int)≥(c.pc.length:Int))=true:=by simpa using h3
  have hn:c.pc[i]?=none:=z'z (by omega)
  have hr:x'L u c i=false:=by
   unfold x'L
   rw[show((i:Int)).toNat=i from rfl,hn]
   split<;>simp_all
  rw[hr]
  repeat' first|refine vb rfl rfl rfl rfl ?_|refine dr (id:=1) T 36 (by kernel_rfl) ?_|refine gn ?_|(first|apply VCg.step T rfl rfl|apply exF);focus((try simp (disch:=omega) only[go_sem,Nat.reduceBEq,e1,e2,e3,z'Q,z'k]);(exact rfl))|refine VCg.gstep T rfl rfl rfl rfl ?_;try simp only[GB]|refine vs T rfl fun K hK=>?_;(try simp (disch:=omega) only[go_sem,Nat.reduceBEq,Nat.reduceAdd]);(refine hK _ _ ?_;clear hK K)|refine st rfl ?_|refine sc rfl ?_|refine nl ?_|refine gs rfl rfl ?_|exact z'n T (z'a _) ⟨rfl,rfl⟩
 have e3:decide ((i:Int)≥(c.pc.length:Int))=false:=by simpa using h3
 have hil:i<u.code.length:=by omega
 have hip:i<c.pc.length:=by omega
 obtain⟨r,hr⟩: ∃r,u.code[i]?=some r:=⟨_,z'b hil⟩
 obtain⟨p,hp⟩: ∃p,c.pc[i]?=some p:=⟨_,z'b hip⟩
 have rr:(x'9 u.code)[i]?=some [.sl false 7 (y'P r)]:=by rw[x'O,hr];rfl
 have rp:(iRs c.pc)[i]?=some [iD p]:=by rw[y'Q,hp];rfl
 by_cases h4:p<0
 ·have e4:decide (p<0)=true:=by simpa using h4
  have hE:x'L u c i=false:=by simp[x'L,hr,hp,y'e.2 h4]
  rw[hE]
  repeat' first|refine vb rfl rfl rfl rfl ?_|refine dr (id:=1) T 36 (by kernel_rfl) ?_|refine gn ?_|(first|apply VCg.step T rfl rfl|apply exF);focus((try simp (disch:=omega) only[go_sem,Nat.reduceBEq,e1,e2,e3,e4,rp,z'Q,z'k]);(first|exact rfl|refine⟨?_,rfl⟩;try omega))|refine VCg.gstep T rfl rfl rfl rfl ?_;try simp only[GB]|refine vs T rfl fun K hK=>?_;(try simp (disch:=omega) only[go_sem,Nat.reduceBEq,Nat.reduceAdd]);(refine hK _ _ ?_;clear hK K)|refine st rfl ?_|refine sc rfl ?_|refine nl ?_|refine gs rfl rfl ?_|exact z'n T (z'a _) ⟨rfl,rfl⟩
 have e4:decide (p<0)=false:=by simpa using h4
 obtain⟨q,rfl⟩: ∃q:Nat,p=(q:Int):=⟨p.toNat,by omega⟩
 by_cases h5:(q:Int)≥(r.length:Int)
 ·have e5:decide ((q:Int)≥(r.length:Int))=true:=by simpa using h5
  have hn:r[q]?=none:=z'z (by omega)
  have hE:x'L u c i=false:=by simp[x'L,hr,hp,hn]
  rw[hE]
  repeat' first|refine vb rfl rfl rfl rfl ?_|refine dr (id:=1) T 36 (by kernel_rfl) ?_|refine gn ?_|(first|apply VCg.step T rfl rfl|apply exF);focus((try simp (disch:=omega) only[go_sem,Nat.reduceBEq,e1,e2,e3,e4,rr,rp,z'Q,z'k,z'7]);(first|exact rfl|refine⟨?_,rfl⟩;try omega))|refine VCg.gstep T rfl rfl rfl rfl ?_;try simp only[GB]|refine vs T rfl fun K hK=>?_;(try simp (disch:=omega) only[go_sem,Nat.reduceBEq,Nat.reduceAdd,e5]);(refine hK _ _ ?_;clear hK K)|refine st rfl ?_|refine sc rfl ?_|refine nl ?_|refine gs rfl rfl ?_|exact z'n T (z'a _) ⟨rfl,rfl⟩
 have e5:decide ((q:Int)≥(r.length:Int))=false:=by simpa using h5
 have hql:q<r.length:=by omega
 obtain⟨x,hx⟩: ∃x,r[q]?=some x:=⟨_,z'b hql⟩
 have rx:(y'P r)[q]?=some [iD x.op,iD x.reg,iD x.loc,z'S x.e,z'S x.f,bD x.ne,iD x.to]:=by rw[x'Q,hx];rfl
 have hE:x'L u c i=(x.op == 22):=by simp[x'L,hr,hp,hx]
 rw[hE]
 repeat' first|refine vb rfl rfl rfl rfl ?_|refine dr (id:=1) T 36 (by kernel_rfl) ?_|refine dr (id:=3) T 10 (by kernel_rfl) ?_|refine gn ?_|(first|apply VCg.step T rfl rfl|apply exF);focus((try simp (disch:=omega) only[go_sem,Nat.reduceBEq,e1,e2,e3,e4,rr,rp,z'Q,z'k,z'7]);(first|exact rfl|refine⟨?_,rfl⟩;try omega))|refine VCg.gstep T rfl rfl rfl rfl ?_;try simp only[GB]|refine vs T rfl fun K hK=>?_;(try simp (disch:=omega) only[go_sem,Nat.reduceBEq,Nat.reduceAdd,e5,rx,z'7]);(first|refine hK _ _ ?_;clear hK K|refine⟨?_,hK _ _ ?_⟩<;>clear hK K;focus(try omega))|refine st rfl ?_|refine sc rfl ?_|refine nl ?_|refine gs rfl rfl ?_|exact z'n T (z'a _) ⟨rfl,rfl⟩
theorem Zl7 (u:Un) (c:Cf) (t:Int):Pure Tryz.prog 65 [.agg (unC u),.agg (cfC c),iD t] (bD (x'L u c t)):=by
 refine Fun.of T [.tmp 6] Tryz.func65 rfl Tryz.ntmps65 Tryz.results65 rfl (by kernel_rfl) ?_
 by_cases h1:t<0
 ·have e1:decide (t<0)=true:=by simpa using h1
  rw[show x'L u c t=false by simp[x'L,y'e.2 h1]]
  repeat' first|refine vb rfl rfl rfl rfl ?_|refine vs T rfl fun K hK=>?_;(try simp (disch:=omega) only[go_sem,Nat.reduceBEq,Nat.reduceAdd,e1]);(refine hK _ _ ?_;clear hK K)|refine st rfl ?_|refine sc rfl ?_|refine nl ?_|refine gs rfl rfl ?_|exact z'n T (z'a _) ⟨rfl,rfl⟩
 have e1:decide (t<0)=false:=by simpa using h1
 obtain⟨i,rfl⟩: ∃i:Nat,t=(i:Int):=⟨t.toNat,by omega⟩
 by_cases h2:(i:Int)≥(u.code.length:Int)
 ·have e2:decide ((i:Int)≥(u.code.length:Int))=true:=by simpa using h2
  have hn:u.code[i]?=none:=z'z (by omega)
  rw[show x'L u c i=false by simp[x'L,hn]]
  repeat' first|refine vb rfl rfl rfl rfl ?_|refine vs T rfl fun K hK=>?_;(try simp (disch:=omega) only[go_sem,Nat.reduceBEq,Nat.reduceAdd,e1,e2,z'Q]);(refine hK _ _ ?_;clear hK K)|refine st rfl ?_|refine sc rfl ?_|refine nl ?_|refine gs rfl rfl ?_|exact z'n T (z'a _) ⟨rfl,rfl⟩
 have e2:decide ((i:Int)≥(u.code.length:Int))=false:=by simpa using h2
 by_cases h3:(i:Int)≥(c.pc.length:Int)
 ·have e3:decide ((i:Int)≥(c.pc.length:Int))=true:=by simpa using h3
  have hn:c.pc[i]?=none:=z'z (by omega)
  rw[show x'L u c i=false by simp[x'L,hn]]
  repeat' first|refine vb rfl rfl rfl rfl ?_|refine vs T rfl fun K hK=>?_;(try simp (disch:=omega) only[go_sem,Nat.reduceBEq,Nat.reduceAdd,e1,e2,e3,z'Q,z'k]);(refine hK _ _ ?_;clear hK K)|refine st rfl ?_|refine sc rfl ?_|refine nl ?_|refine gs rfl rfl ?_|exact z'n T (z'a _) ⟨rfl,rfl⟩
 have e3:decide ((i:Int)≥(c.pc.length:Int))=false:=by simpa using h3
 obtain⟨r,hr⟩: ∃r,u.code[i]?=some r:=⟨_,z'b (by omega)⟩
 obtain⟨p,hp⟩: ∃p,c.pc[i]?=some p:=⟨_,z'b (by omega)⟩
 have rr:(x'9 u.code)[i]?=some [.sl false 7 (y'P r)]:=by rw[x'O,hr];rfl
 have rp:(iRs c.pc)[i]?=some [iD p]:=by rw[y'Q,hp];rfl
 have l1:i<u.code.length:=by omega
 have l2:i<c.pc.length:=by omega
 by_cases h4:p<0
 ·have e4:decide (p≥0)=false:=by simp;omega
  rw[show x'L u c i=false by simp[x'L,hr,hp,y'e.2 h4]]
  repeat' first|refine vb rfl rfl rfl rfl ?_|refine vs T rfl fun K hK=>?_;(try simp (disch:=omega) only[go_sem,Nat.reduceBEq,Nat.reduceAdd,e1,e2,e3,e4,rp,z'Q,z'k]);(first|refine hK _ _ ?_;clear hK K|refine⟨?_,hK _ _ ?_⟩<;>clear hK K;focus(try omega))|refine st rfl ?_|refine sc rfl ?_|refine nl ?_|refine gs rfl rfl ?_|exact z'n T (z'a _) ⟨rfl,rfl⟩
 have e4:decide (p≥0)=true:=by simp;omega
 obtain⟨q,rfl⟩: ∃q:Nat,p=(q:Int):=⟨p.toNat,by omega⟩
 by_cases h5:(q:Int)<(r.length:Int)
 case neg=>
  have e5:decide ((q:Int)<(r.length:Int))=false:=by simpa using h5
  have hn:r[q]?=none:=z'z (by omega)
  rw[show x'L u c i=false by simp[x'L,hr,hp,hn]]
  repeat' first|refine vb rfl rfl rfl rfl ?_|refine vs T rfl fun K hK=>?_;(try simp (disch:=omega) only[go_sem,Nat.reduceBEq,Nat.reduceAdd,e1,e2,e3,e4,e5,rr,rp,z'Q,z'k,z'7]);(first|refine hK _ _ ?_;clear hK K|refine⟨?_,hK _ _ ?_⟩<;>clear hK K;focus(try omega))|refine st rfl ?_|refine sc rfl ?_|refine nl ?_|refine gs rfl rfl ?_|exact z'n T (z'a _) ⟨rfl,rfl⟩
 have e5:decide ((q:Int)<(r.length:Int))=true:=by simpa using h5
 obtain⟨x,hx⟩: ∃x,r[q]?=some x:=⟨_,z'b (by omega)⟩
 have rx:(y'P r)[q]?=some [iD x.op,iD x.reg,iD x.loc,z'S x.e,z'S x.f,bD x.ne,iD x.to]:=by rw[x'Q,hx];rfl
 have l3:q<r.length:=by omega
 rw[show x'L u c i=(x.op == 22) by simp[x'L,hr,hp,hx]]
 repeat' first|refine vb rfl rfl rfl rfl ?_|refine vs T rfl fun K hK=>?_;(try simp (disch:=omega) only[go_sem,Nat.reduceBEq,Nat.reduceAdd,e1,e2,e3,e4,e5,rr,rp,rx,z'Q,z'k,z'7]);(first|refine hK _ _ ?_;clear hK K|refine⟨?_,hK _ _ ?_⟩<;>clear hK K;focus(try omega))|refine st rfl ?_|refine sc rfl ?_|refine nl ?_|refine gs rfl rfl ?_|exact z'n T (z'a _) ⟨rfl,rfl⟩
theorem ZmF (c:Cf) (hn:c.bufs.length≤1000000):Pure Tryz.prog 66 [.agg (cfC c)] (bD (Zbp c)):=by
 refine Fun.of T [.tmp 2] Tryz.func66 rfl Tryz.ntmps66 Tryz.results66 rfl (by kernel_rfl) ?_
 repeat' first|refine vb rfl rfl rfl rfl ?_|refine vs T rfl fun K hK=>?_;(try simp (disch:=omega) only[go_sem,Nat.reduceBEq,z'Z]);(refine hK _ _ ?_;clear hK K)|refine st rfl ?_|refine nl ?_
 refine VC.loop {k:Nat//k≤c.bufs.length∧ ∀(i:Nat) (y:List En),i<k→c.bufs[i]?=some y→decide (y.length=0)=true} (fun p=>⟨z'J [(1,.pt (cfC c)),(6,.sl false 1 (y'Y c.bufs)),(7,iD (c.bufs.length:Nat)),(8,iD (p.1:Nat))],[]⟩) (fun p=>c.bufs.length-p.1) ⟨0,by omega,fun i y hi=>by omega⟩ ?_ ?_
 ·refine Weak.sub ?_
  simp[sub,upd]
 ·rintro⟨k,hk,hs⟩
  dsimp only
  rcases z'g k c.bufs.length with hlt|hge
  ·have hd:decide ((k:Int)<(c.bufs.length:Int))=true:=by simp;omega
   have hw:IntKind.i64.wrap ((k:Int)+1)=((k+1:Nat):Int):=by rw[w64 (by omega)];omega
   obtain⟨b,hb⟩: ∃b,c.bufs[k]?=some b:=⟨_,z'b hlt⟩
   have rb:(y'Y c.bufs)[k]?=some [buf b]:=by rw[x'b,hb];rfl
   by_cases h0:b.length=0
   ·have e0:decide ((b.length:Int)>0)=false:=by rw[h0];rfl
    repeat' first|refine vs T rfl fun K hK=>?_;(try simp (disch:=omega) only[go_sem,Nat.reduceBEq,hd,hw,rb,e0,z'Z,z'A]);(first|refine hK _ _ ?_;clear hK K|refine⟨?_,hK _ _ ?_⟩<;>clear hK K;focus(try omega))|refine st rfl ?_|refine sc rfl ?_|refine nl ?_
    refine⟨⟨k+1,by omega,Zak hs hb (by simpa using h0)⟩,Weak.sub ?_,by simp only[];omega⟩
    simp[sub,upd]
   ·have e0:decide ((b.length:Int)>0)=true:=by simp;omega
    rw[show Zbp c=false from v'r hb (by simpa using h0)]
    repeat' first|refine vs T rfl fun K hK=>?_;(try simp (disch:=omega) only[go_sem,Nat.reduceBEq,hd,rb,e0,z'Z,z'A]);(first|refine hK _ _ ?_;clear hK K|refine⟨?_,hK _ _ ?_⟩<;>clear hK K;focus(try omega))|refine st rfl ?_|refine sc rfl ?_|refine nl ?_|exact z'n T (z'a _) ⟨rfl,rfl⟩
  ·have hd:decide ((k:Int)<(c.bufs.length:Int))=false:=by simp;omega
   rw[show Zbp c=true from ZaT fun i x hi hx=>hs i x (by omega) hx]
   repeat' first|refine vs T rfl fun K hK=>?_;(try simp (disch:=omega) only[go_sem,Nat.reduceBEq,hd]);(refine hK _ _ ?_;clear hK K)|refine st rfl ?_|refine sc rfl ?_|refine nl ?_|exact z'n T (z'a _) ⟨rfl,rfl⟩
def v't (u:Un) (c:Cf):Bool:=((List.range u.code.length).all fun t=>x'L u c (t:Nat))&&Zbp c
theorem ZfP {n:Nat} {p:Nat→Bool} (h: ∀i,i<n→p i=true):(List.range n).all p=true:=by
 rw[z'I]
 exact fun x hx=>h x (z'G.1 hx)
theorem ZfQ {n i:Nat} {p:Nat→Bool} (hi:i<n) (h:p i=false):(List.range n).all p=false:=by
 rw[List.all_eq_false]
 exact⟨i,z'G.2 hi,by simp[h]⟩
theorem ZhA (u:Un) (c:Cf) (hu:u.code.length≤1000000) (hn:c.bufs.length≤1000000):Pure Tryz.prog 36 [.agg (unC u),.agg (cfC c)] (bD (v't u c)):=by
 have cq:=ZmF c hn
 refine Fun.of T [.tmp 4] Tryz.func36 rfl Tryz.ntmps36 Tryz.results36 rfl (by kernel_rfl) ?_
 repeat' first|refine vb rfl rfl rfl rfl ?_|refine vs T rfl fun K hK=>?_;(try simp (disch:=omega) only[go_sem,Nat.reduceBEq,z'Q]);(refine hK _ _ ?_;clear hK K)|refine st rfl ?_|refine nl ?_
 refine VC.loop {k:Nat//k≤u.code.length∧ ∀i,i<k→x'L u c (i:Nat)=true} (fun p=>⟨z'J [(2,.pt (unC u)),(3,.pt (cfC c)),(8,iD (u.code.length:Nat)),(9,iD (p.1:Nat))],[]⟩) (fun p=>u.code.length-p.1) ⟨0,by omega,fun i hi=>by omega⟩ ?_ ?_
 ·refine Weak.sub ?_
  simp[sub,upd]
 rintro⟨k,hk,hs⟩
 dsimp only
 rcases z'g k u.code.length with hlt|hge
 ·have hd:decide ((k:Int)<(u.code.length:Int))=true:=by simp;omega
  have hw:IntKind.i64.wrap ((k:Int)+1)=((k+1:Nat):Int):=by rw[w64 (by omega)];omega
  have ce:=Zl7 u c (k:Nat)
  cases hE:x'L u c (k:Nat)with
  |false=>
   rw[hE]at ce
   rw[show v't u c=false by rw[v't,ZfQ hlt hE];rfl]
   repeat' first|refine vs T rfl fun K hK=>?_;(try simp (disch:=omega) only[go_sem,Nat.reduceBEq,Nat.reduceAdd,Nat.reduceLeDiff,hd,z'r]);(first|refine hK _ _ ?_;clear hK K|refine Op1.callp rfl rfl (ce) rfl ?_;refine hK _ _ ?_;clear hK K)|refine st rfl ?_|refine sc rfl ?_|refine nl ?_|exact z'n T (z'a _) ⟨rfl,rfl⟩
  |true=>
   rw[hE]at ce
   repeat' first|refine vs T rfl fun K hK=>?_;(try simp (disch:=omega) only[go_sem,Nat.reduceBEq,Nat.reduceAdd,Nat.reduceLeDiff,hd,hw,z'l]);(first|refine hK _ _ ?_;clear hK K|refine Op1.callp rfl rfl (ce) rfl ?_;refine hK _ _ ?_;clear hK K)|refine st rfl ?_|refine sc rfl ?_|refine nl ?_
   refine⟨⟨k+1,by omega,fun i hi=>?_⟩,Weak.sub ?_,by simp only[];omega⟩
   ·rcases z'g i k with h|h
    ·exact hs i h
    ·obtain rfl:i=k:=by omega
     exact hE
   ·simp[sub,upd]
 have hd:decide ((k:Int)<(u.code.length:Int))=false:=by simp;omega
 rw[show v't u c=Zbp c by rw[v't,ZfP fun i hi=>hs i (by omega),z'W]]
 repeat' first|refine vs T rfl fun K hK=>?_;(try simp (disch:=omega) only[go_sem,Nat.reduceBEq,Nat.reduceAdd,Nat.reduceLeDiff,hd]);(first|refine hK _ _ ?_;clear hK K|refine Op1.callp rfl rfl (cq) rfl ?_;refine hK _ _ ?_;clear hK K)|refine st rfl ?_|refine sc rfl ?_|refine nl ?_|exact z'n T (z'a _) ⟨rfl,rfl⟩
theorem Zll (u:Un) (c:Cf) (hu:u.code.length≤1000000) (hn:c.bufs.length≤1000000):Pure Tryz.prog 35 [.agg (unC u),.agg (cfC c)] (bD (v't u c)):=by
 have cq:=Zls c hn
 refine Fun.of T [.tmp 4] Tryz.func35 rfl Tryz.ntmps35 Tryz.results35 rfl (by kernel_rfl) ?_
 repeat' first|refine vb rfl rfl rfl rfl ?_|refine vs T rfl fun K hK=>?_;(try simp (disch:=omega) only[go_sem]);(refine hK _ _ ?_;clear hK K)|refine st rfl ?_|refine nl ?_
 refine VC.loop {k:Nat//k≤u.code.length∧ ∀i,i<k→x'L u c (i:Nat)=true} (fun p=>⟨z'J [(2,.pt (unC u)),(3,.pt (cfC c)),(5,iD (p.1:Nat))],[]⟩) (fun p=>u.code.length-p.1) ⟨0,by omega,fun i hi=>by omega⟩ ?_ ?_
 ·refine Weak.sub ?_
  simp[sub,upd]
 rintro⟨k,hk,hs⟩
 dsimp only
 rcases z'g k u.code.length with hlt|hge
 ·have hd:decide ((k:Int)<(u.code.length:Int))=true:=by simp;omega
  have hw:IntKind.i64.wrap ((k:Int)+1)=((k+1:Nat):Int):=by rw[w64 (by omega)];omega
  have ce:=Zlj u c (k:Nat)
  cases hE:x'L u c (k:Nat)with
  |false=>
   rw[hE]at ce
   rw[show v't u c=false by rw[v't,ZfQ hlt hE];rfl]
   repeat' first|refine vs T rfl fun K hK=>?_;(try simp (disch:=omega) only[go_sem,Nat.reduceBEq,Nat.reduceAdd,Nat.reduceLeDiff,hd,z'Q,z'r]);(first|refine hK _ _ ?_;clear hK K|refine Op1.callp rfl rfl (ce) rfl ?_;refine hK _ _ ?_;clear hK K)|refine st rfl ?_|refine sc rfl ?_|refine nl ?_|exact z'n T (z'a _) ⟨rfl,rfl⟩
  |true=>
   rw[hE]at ce
   repeat' first|refine vs T rfl fun K hK=>?_;(try simp (disch:=omega) only[go_sem,Nat.reduceBEq,Nat.reduceAdd,Nat.reduceLeDiff,hd,hw,z'Q,z'l]);(first|refine hK _ _ ?_;clear hK K|refine Op1.callp rfl rfl (ce) rfl ?_;refine hK _ _ ?_;clear hK K)|refine st rfl ?_|refine sc rfl ?_|refine nl ?_
   refine⟨⟨k+1,by omega,fun i hi=>?_⟩,Weak.sub ?_,by simp only[];omega⟩
   ·rcases z'g i k with h|h
    ·exact hs i h
    ·obtain rfl:i=k:=by omega
     exact hE
   ·simp[sub,upd]
 have hd:decide ((k:Int)<(u.code.length:Int))=false:=by simp;omega
 rw[show v't u c=Zbp c by rw[v't,ZfP fun i hi=>hs i (by omega),z'W]]
 repeat' first|refine vs T rfl fun K hK=>?_;(try simp (disch:=omega) only[go_sem,Nat.reduceBEq,Nat.reduceAdd,Nat.reduceLeDiff,hd,z'Q]);(first|refine hK _ _ ?_;clear hK K|refine Op1.callp rfl rfl (cq) rfl ?_;refine hK _ _ ?_;clear hK K)|refine st rfl ?_|refine sc rfl ?_|refine nl ?_|exact z'n T (z'a _) ⟨rfl,rfl⟩
end Go.Proofs.YtfneeacgkdhldaaGreat
