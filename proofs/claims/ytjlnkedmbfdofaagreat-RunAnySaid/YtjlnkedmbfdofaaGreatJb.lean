/- A function that defers one closure. No condition. -/
import Derived.Test.YtjlnkedmbfdofaaGreatWa
import Derived.Defers
import Derived.Test.YtjlnkedmbfdofaaGreatEh
namespace Go.Vc
set_option linter.unusedSimpArgs false
set_option linter.unusedVariables false
open Go
def ZmD (P:Program) (T:Tab P) (ng:Nat) (cg:Code) (caps:Array Value) (rs:List ResultVar) (Φ:D→Heap→Prop) (e:Exit) (s:St):Prop:=
 (e= .normal∨e= .ret)∧VC P ng cg ⟨v'c (caps.toList.map D.is) 0,s.heap⟩ fun e3 s3=>(e3= .normal∨e3= .ret)∧ ∃ds H',v'2 T ⟨s.env,s3.heap⟩ rs ds∧H'.Sublist s3.heap∧Φ (v'q ds) H'
theorem Fun.ofDefer {P:Program} (T:Tab P) {f:FuncId} {fn:Func} {c0 c2:Code} {id n:Nat} {o1 o2:Oper} {args:List D} {H:Heap} {Φ:D→Heap→Prop} {xf:Operand} {ts:Array TypeId} (rs:List ResultVar)
  (hf:P.funcs[f]?=some fn) (hb:fn.body=some (.seq c0 (.seq (.region id #[o1,o2] false) c2))) (hn:fn.ntmps=n) (hrs:fn.results=rs.toArray) (hargs:Nat.ble args.length n=true) (hname:(fn.name == "runtime.NumGoroutine")=false)
  {g:FuncId} {fg:Func} {cg:Code} {ng:Nat} (hfg:P.funcs[g]?=some fg) (hbg:fg.body=some cg) (hng:fg.ntmps=ng) (hrg:fg.results= #[]) (hnameg:(fg.name == "runtime.NumGoroutine")=false)
  (ho2:o2.op= .defer ⟨.value xf, #[],ts⟩) (hg1:o1.guard=none) (hg2:o2.guard=none) (hd2:o2.dst=none) (hd1:y'B n o1=true)
  (h:VC P n c0 ⟨v'c args 0,H⟩ fun e s=>e= .normal∧Op1 P o1 (evD s.env) s.heap fun d H1=> ∃caps:Array Value,evD (s.put o1.dst d H1).env xf= .is (.func (.func g) #[] caps)∧caps.size≤ng∧VC P n c2 (s.put o1.dst d H1) (ZmD P T ng cg caps rs Φ)):Fun P f args H false Φ:=by
 refine⟨⟨fn,hf,by rw[hb];rfl,hname⟩,?_⟩
 intro w L0 vs hi hr
 have hlen:=RelL.length _ _ hr
 have hle:args.length≤n:=by simpa using hargs
 refine calls_of_wp_defers hf hb ?_
 let x:Ctx:=⟨w,L0,H,n,[]⟩
 have hs:SRel x ⟨v'c args 0,H⟩ {tmps:=vs.toArray++Array.replicate (fn.ntmps-vs.toArray.size) undef,defers:=[]} w:=by
  refine⟨fun t=>?_,hi,Evo.refl _ _,rfl,?_⟩
  ·have:=ZaM args vs hr 0 t
   simp only[z'Q,if_true,Nat.sub_zero]at this
   have e:(vs.toArray++Array.replicate (fn.ntmps-vs.toArray.size) undef).getD t undef=(vs[t]?).getD undef:=by
    rw[z'w,Array.getElem?_append]
    split
    ·simp
    ·rename_i hlt
     have h1:vs[t]?=none:=by simp at hlt⊢;exact hlt
     rw[h1]
     rw[y'Y]
     split<;>rfl
   rw[e];exact this
  ·show(vs.toArray++Array.replicate (fn.ntmps-vs.toArray.size) undef).size=n
   simp[hn,hlen];omega
 refine wp_seq (wp_mono (h x _ w rfl hs) ?_)
 rintro e a1 w1 ⟨s1,⟨rfl,hop⟩,hs1⟩
 show(Code.seq (.region id #[o1,o2] false) c2).wp P _ a1 w1
 refine wp_seq ?_
 refine wp_region_lit (l:=[o1,o2]) ?_
 unfold wpList
 rw[if_pos (by simp[Region.wanted,hg1])]
 refine .inl ?_
 obtain⟨Φ1,hop1,hk1⟩:=hop
 refine(hop1 w1 L0 a1.eval hs1.inv (fun y _=>hs1.ev y)).upon ?_
 rintro v1 w2 ⟨d1,H1,hΦ1,hv1,hi1,he1⟩
 obtain⟨caps,hcap,hcs,hv2⟩:=hk1 d1 H1 hΦ1
 have hs2:SRel x (s1.put o1.dst d1 H1) (a1.put o1.dst v1) w2:=hs1.put (fun t ht=>w'E hd1 t ht) hv1 hi1 he1
 have hxf:(a1.put o1.dst v1).eval xf= .func (.func g) #[] caps:=by
  have:=hs2.ev xf
  rw[hcap]at this
  exact this
 unfold wpList
 rw[if_pos (by simp[Region.wanted,hg2])]
 refine .inl ?_
 have hx2:(execOp (a1.put o1.dst v1).eval o2).run P w2= .ok (.defer ⟨.fn (.func g) caps, #[]⟩) w2:=by
  simp only[execOp,ho2,resolve,hxf,Deferred.ofValue,List.map_toArray,y'o,Array.append_empty]
  rfl
 unfold Oper.wp
 rw[hx2,Oper.upon_defer]
 refine wpList_nil ?_
 have hs3:SRel {x with ds:=[⟨.fn (.func g) caps, #[]⟩]} (s1.put o1.dst d1 H1) ({a1.put o1.dst v1 with defers:=⟨.fn (.func g) caps, #[]⟩::(a1.put o1.dst v1).defers}.put o2.dst undef) w2:=by
  rw[hd2]
  exact{env:=hs2.env,inv:=hs2.inv,evo:=hs2.evo,defers:=by show _::_=_;rw[hs2.defers],size:=hs2.size}
 refine wp_mono (hv2 _ _ w2 rfl hs3) ?_
 rintro e a4 w4 ⟨s4,⟨he4,hcl⟩,hs4⟩
 have hdf:a4.defers=[⟨.fn (.func g) caps, #[]⟩]:=hs4.defers
 have key:Leaves P fn a4.tmps (fun e w'=> ∃v,e= .returned v∧ ∃d H',Φ d H'∧Rel w' (live H' (fun b=>L0 b∨(false=true∧b<w.heap.size∧b∉H.blocks))) d v∧HInv w' L0 H'∧Evo w H w' H') a4.defers .returning w4:=by
  rw[hdf]
  refine leaves_cons (f:=g) (args:=caps) (by simp) ?_ ?_
  ·show(callFunc g (#[]++caps)).run P w4=_
   rw[Array.empty_append]
   exact w'w hfg (by rw[hbg];rfl) hnameg caps w4
  refine CallsD.mono (callsD_of_wp hfg hbg (R:=fun e w'=> ∃v,e= .returned v∧ ∃ds H', ∃v2,(results fn a4.tmps).run P w'= .ok v2 w'∧Rel w' (live H' L0) (v'q ds) v2∧Φ (v'q ds) H'∧HInv w' L0 H'∧Evo w H w' H') ?_) ?_
  ·let y:Ctx:=⟨w4,L0,s4.heap,ng,[]⟩
   have hr0:RelL w4 (live s4.heap L0) (caps.toList.map D.is) caps.toList:=Zao _ _ _
   have hy:SRel y ⟨v'c (caps.toList.map D.is) 0,s4.heap⟩ {tmps:=caps++Array.replicate (fg.ntmps-caps.size) undef,defers:=[]} w4:=by
    refine⟨fun t=>?_,hs4.inv,Evo.refl _ _,rfl,?_⟩
    ·have:=ZaM _ _ hr0 0 t
     simp only[z'Q,if_true,Nat.sub_zero]at this
     have e:(caps++Array.replicate (fg.ntmps-caps.size) undef).getD t undef=(caps.toList[t]?).getD undef:=by
      rw[z'w,Array.getElem?_append]
      split
      ·simp
      ·rename_i hlt
       have h1:caps.toList[t]?=none:=by simp at hlt⊢;exact hlt
       rw[h1]
       rw[y'Y]
       split<;>rfl
     rw[e];exact this
    ·show(caps++Array.replicate (fg.ntmps-caps.size) undef).size=ng
     simp[hng];omega
   refine wp_mono (hcl y _ w4 rfl hy) ?_
   rintro e5 a5 w5 ⟨s5,⟨he5,ds,H',r1,r2,r3⟩,hs5⟩
   have hkeep: ∀t,Rel w5 (live s5.heap L0) (s4.env t) (a4.tmps.getD t undef):=fun t=>Rel.mono (Evo.keeps (L0:=L0) hs5.evo) _ _ (hs4.env t)
   obtain⟨v2,hv2',hrel⟩:=Zdl (s:=⟨s4.env,s5.heap⟩) T hs5.inv hkeep fn ds (by rw[hrs];exact r1)
   have hres:(results fg a5.tmps).run P w5= .ok (.tuple #[]) w5:=results_none hrg _ _ _
   have fin: ∃v,Ending.returned (.tuple #[])= .returned v∧ ∃ds H', ∃v2,(results fn a4.tmps).run P w5= .ok v2 w5∧Rel w5 (live H' L0) (v'q ds) v2∧Φ (v'q ds) H'∧HInv w5 L0 H'∧Evo w H w5 H':=by
    refine⟨_,rfl,ds,H',v2,hv2',?_,r3,SubH.inv r2 hs5.inv,SubH.evo r2 (hs4.evo.trans hs5.evo)⟩
    refine Rel.mono (Keeps.less fun b _ hl=>?_) _ _ hrel
    rcases hl with hl|hl
    ·exact .inl hl
    ·exact .inr (SubH.blocks r2 b hl)
   rcases he5 with rfl|rfl
   ·exact⟨hs5.defers,_,hres,fin⟩
   ·exact⟨hs5.defers,_,hres,fin⟩
  ·rintro e u' w' ⟨rfl,v,rfl,ds,H',v2,q1,q2,q3,q4,q5⟩
   show Leaves P fn a4.tmps _ [] (settle .returning) w'
   refine⟨v2,q1,v2,rfl,v'q ds,H',q3,?_,q4,q5⟩
   refine Rel.mono (Keeps.less fun b _ hl=>?_) _ _ q2
   rcases hl with hl|hl
   ·exact Or.inl (hl.elim (fun h=>h) (fun h=>absurd h.1 (by simp)))
   ·exact Or.inr hl
 rcases he4 with rfl|rfl
 ·exact key
 ·exact key
noncomputable def Zkm:Ge→Bool
 | .nm=>true
 | .rt=>true
 |_=>false
noncomputable def Zli {P:Program} (T:Tab P) (w:Gw) (fn:Func) (c2:Code) (g:Nat) (cs:List G) (s:Gs):Option G:=match w.run fn.ntmps c2 s with
 |some (e2,s2)=>match P.funcs[g]? with
  |some fg=>match fg.body with
   |some cg=>match (Zkm e2&&cs.all G.isV)&&(Nat.ble cs.length fg.ntmps&&(fg.results.isEmpty&& !(fg.name == "runtime.NumGoroutine")))with
    |true=>x'F (List.replicate (fg.ntmps/8+1) c8) fun sk=>ZcM cs 0 sk fun env=>match w.run fg.ntmps cg ⟨env,s2.V,s2.nx⟩with
     |some (e3,s3)=>match Zkm e3,Zax T s2.env s3.V fn.results.toList with
      |true,some gs=>match gFz s3.V 8 (ZcG gs)with
       |some g'=>match gNo g' with|true=>some g'|false=>none
       |none=>none
      |_,_=>none
     |none=>none
    |false=>none
   |none=>none
  |none=>none
 |none=>none
noncomputable def Zjt {P:Program} (T:Tab P) (w:Gw) (f:Nat) (args:List G):Option G:=match P.funcs[f]? with
 |some fn=>match fn.body with
  |some (.seq c0 (.seq (.region _ ops false) c2))=>match ops.toList,Nat.ble args.length fn.ntmps&& !(fn.name == "runtime.NumGoroutine")with
   |[o1,o2],true=>x'F (List.replicate (fn.ntmps/8+1) c8) fun sk=>ZcM args 0 sk fun env=>match w.run fn.ntmps c0 ⟨env,[],0⟩with
    |some (.nm,s1)=>match Zd8 T (fun _ _=>false) w fn.ntmps o1 s1,o2.op,o1.guard.isNone&&(o2.guard.isNone&&o2.dst.isNone)with
     |some s,.defer ⟨.value xf,az,_⟩,true=>match az.toList,gX s.env xf with
      |[],some (.fn g gs)=>Zli T w fn c2 g gs s
      |_,_=>none
     |_,_,_=>none
    |_=>none
   |_,_=>none
  |_=>none
 |none=>none
theorem Zhu {e:Ge} (h:Zkm e=true):e.x= .normal∨e.x= .ret:=by
 cases e with
 |nm=>exact .inl rfl
 |rt=>exact .inr rfl
 |gt l=>cases h
 |ex i=>cases h
theorem Fun.reckonD {P:Program} (T:Tab P) (ow:Nat→G→Bool) {tab:Nat→List G→Option G} (hT:TabOk P tab) (hN:NamesOk P) (hM:P.follows .mixedOrders=true) {f:Nat} {args:List G} {g:G} (fuel:Nat) (h:Zjt T (w'W T ow tab fuel) f args=some g) (ha:args.all gNo=true)
  {ads:List D} {d:D} (e1:args.map (G.d fun _=>(0,0))=ads) (e2:g.d (fun _=>(0,0))=d):Pure P f ads d:=by
 subst e1;subst e2
 have hw:=Zdv T ow hT hN hM fuel
 generalize w'W T ow tab fuel=w at h hw
 unfold Zjt at h
 split at h
 case h_2=>cases h
 rename_i fn hf
 split at h
 case h_2=>cases h
 rename_i c0 id ops c2 hb
 split at h
 case h_2=>cases h
 rename_i o1 o2 hops hle
 rw[z'b]at hle
 rw[y'x,Zbx]at h
 split at h
 case h_2=>cases h
 rename_i s1 h1
 split at h
 case h_2=>cases h
 rename_i s xf az ts h2 ho2 hgd
 split at h
 case h_2=>cases h
 rename_i gc gs has hx
 unfold Zli at h
 split at h
 case h_2=>cases h
 rename_i e2 s2 h3
 split at h
 case h_2=>cases h
 rename_i fg hfg
 split at h
 case h_2=>cases h
 rename_i cg hbg
 split at h
 case h_2=>cases h
 rename_i hck
 rw[y'x,Zbx]at h
 split at h
 case h_2=>cases h
 rename_i e3 s3 h4
 split at h
 case h_2=>cases h
 rename_i gr he3 hgr
 split at h
 case h_2=>cases h
 rename_i g' hz
 split at h
 case h_2=>cases h
 rename_i hno
 cases h
 simp only[z'b,Option.isNone_iff_eq_none]at hgd hck
 obtain⟨hg1,hg2,hd2⟩:=hgd
 obtain⟨⟨he2,hv⟩,hlg,hrg,hng⟩:=hck
 have hops':ops= #[o1,o2]:=by rw[←Array.toList_inj];exact hops
 have has':az= #[]:=by rw[←Array.toList_inj];exact has
 subst hops';subst has'
 have hle':=z'i hle.1
 let lo:Nat→Prop:=fun _=>True
 have hargs:BelL lo 0 args:=fun x hx σ τ _=>x'a (z'h.1 ha x hx) σ τ
 have k0:GOk lo fn.ntmps ⟨v'H args 0 (List.replicate (fn.ntmps/8+1) c8),[],0⟩:=⟨ZaO _ _ _ (ZdO _),fun _ _=>trivial,ZaN _ _ _ hargs ZfS,VOk.nil⟩
 obtain⟨⟨a1,a2⟩,a3⟩:=hw.2 lo _ _ _ _ _ h1 k0
 obtain⟨⟨b1,b2⟩,hd1,b3⟩:=Zdw T hN hw h2 a2
 obtain⟨⟨c1,c2'⟩,c3⟩:=hw.2 lo _ _ _ _ _ h3 b2
 have hgs:BelL lo s.nx gs:=(y'q hx b2.env).fn_l hv
 have k3:GOk lo fg.ntmps ⟨v'H gs 0 (List.replicate (fg.ntmps/8+1) c8),s2.V,s2.nx⟩:=⟨ZaO _ _ _ (ZdO _),fun _ _=>trivial,ZaN _ _ _ (hgs.mono c1) ZfS,c2'.V⟩
 obtain⟨⟨d1,d2⟩,d3⟩:=hw.2 lo _ _ _ _ _ h4 k3
 have key:Fun P f (args.map (G.d fun _=>(0,0))) [] false (fun d H'=> ∃σ3:Nm,d=(ZcG gr).d σ3∧H'=Vn σ3 s3.V∧(Vn σ3 s3.V).blocks.Nodup):=by
  refine Fun.ofDefer T (n:=fn.ntmps) (ng:=fg.ntmps) fn.results.toList hf hb rfl (by simp) (by rw[z'f];exact hle.1) (hN f fn hf) hfg hbg rfl (by simpa using hrg) (hN gc fg hfg) ho2 hg1 hg2 hd2 hd1 ?_
  rw[Zep (fun _=>(0,0)) args hle']
  refine VC.nodupH (a3 (fun _=>(0,0)) _ fun σ1 _ hn1=>⟨rfl,?_⟩)
  refine b3 σ1 (fun st=> ∃caps:Array Value,evD st.env xf= .is (.func (.func gc) #[] caps)∧caps.size≤fg.ntmps∧VC P fn.ntmps c2 st (ZmD P T fg.ntmps cg caps fn.results.toList _)) hn1 fun σ2 hag2=>?_
  refine⟨(gs.map (G.v σ2)).toArray,z'u hx σ2,by simp;exact z'i hlg,?_⟩
  refine c3 σ2 _ fun σ3 hag3=>⟨Zhu he2,?_⟩
  have hgd:gs.map (G.d σ3)=gs.map (G.d σ2):=hgs.dls fun i _ hi=>hag3 i hi
  rw[v'y hv, ←hgd,Zep σ3 gs (z'i hlg)]
  refine VC.nodupH (d3 σ3 _ fun σ4 hag4 hn4=>⟨Zhu he3,gr.map (G.d σ4),Vn σ4 s3.V,?_,z'V _,σ4,ZhY σ4 gr,rfl,hn4⟩)
  have hE:cE σ4 s2.env=cE σ3 s2.env:=funext fun t=>ZcN c2'.env t σ4 σ3 fun i _ hi=>hag4 i hi
  have:=Zbn T (env:=s2.env) hn4 hgr
  rw[hE]at this
  exact this
 refine Fun.fz (key.mono ?_)
 rintro d H' ⟨σ3,rfl,rfl,hn⟩
 rw[x'a hno _ σ3]
 exact v'g hn 8 _ _ hz
end Go.Vc
