/- Calls at fixed data, reckoned out: regions that draw their order. No condition. -/
import Derived.Test.YtjlnkedmbfdofaaGreatEf
namespace Go.Vc
set_option linter.unusedSimpArgs false
set_option linter.unusedVariables false
open Go
def ZdG:D→Bool
 | .is _=>true
 | .gs _ _=>true
 | .os .. =>true
 |_=>false
def ZgI:D→Bool
 | .agg l=>l.all ZdG
 |d=>ZdG d
def noD:D→Bool
 | .tup l=>l.all ZgI
 |d=>ZgI d
def ZkO:HC→Bool
 | .cells _ _ l=>l.all ZdG
 |_=>true
theorem Rel.no1 {w:World} {L L':Nat→Prop} {d:D} {v:Value} (h:ZdG d=true) (r:Rel w L d v):Rel w L' d v:=by
 cases d<;>first|(cases h;done)|exact r
theorem RelL.no1 {w:World} {L L':Nat→Prop}: ∀(l:List D) (vs:List Value),l.all ZdG=true→RelL w L l vs→RelL w L' l vs
 |[],vs,_,r=>r
 |d::ds,vs,h,r=>by
  obtain⟨v,rest,rfl,r1,r2⟩:=r
  rw[y'b,z'b]at h
  exact⟨v,rest,rfl,Rel.no1 h.1 r1,RelL.no1 ds rest h.2 r2⟩
theorem Rel.no2 {w:World} {L L':Nat→Prop} {d:D} {v:Value} (h:ZgI d=true) (r:Rel w L d v):Rel w L' d v:=by
 cases d with
 |agg l=>obtain⟨h1,cs,rfl,hr⟩:=r;exact⟨h1,cs,rfl,RelL.no1 _ _ h hr⟩
 |_=>first|(cases h;done)|exact r
theorem RelL.no2 {w:World} {L L':Nat→Prop}: ∀(l:List D) (vs:List Value),l.all ZgI=true→RelL w L l vs→RelL w L' l vs
 |[],vs,_,r=>r
 |d::ds,vs,h,r=>by
  obtain⟨v,rest,rfl,r1,r2⟩:=r
  rw[y'b,z'b]at h
  exact⟨v,rest,rfl,Rel.no2 h.1 r1,RelL.no2 ds rest h.2 r2⟩
theorem Rel.noT {w:World} {L L':Nat→Prop} {d:D} {v:Value} (h:noD d=true) (r:Rel w L d v):Rel w L' d v:=by
 cases d with
 |tup l=>obtain⟨cs,rfl,hr⟩:=r;exact⟨cs,rfl,RelL.no2 _ _ h hr⟩
 |agg l=>exact Rel.no2 h r
 |_=>first|(cases h;done)|exact r
theorem HRel.no {w:World} {L L':Nat→Prop} {b:Nat} {c:HC} (h:ZkO c=true) (r:HRel w L b c):HRel w L' b c:=by
 cases c with
 |cells ty n l=>obtain⟨h1,arr,h2,h3,h4⟩:=r;exact⟨h1,arr,h2,h3,RelL.no1 _ _ h h4⟩
 |_=>exact r
theorem Op1.lendN {P:Program} {o:Oper} {E:Operand→D} {f:FuncId} {xf:Operand} {ax:Array Operand} {tys:Array TypeId} {H:Heap} {caps:Array Value} {fr:Bool} {args:List D} {Φ K:D→Heap→Prop}
  (ho:o.op= .call ⟨.value xf,ax,tys⟩) (hE:E xf= .is (.func (.func f) #[] caps)) (h:Fun P f args [] fr Φ) (ha:FzL H args (ax.toList.map E++caps.toList.map D.is))
  (hp: ∀d Hp,Φ d Hp→noD d=true∧ ∀b c,(b,c)∈Hp→ZkO c=true) (hk: ∀d Hp,Φ d Hp→K d (Hp++H)):Op1 P o E H K:=by
 refine⟨fun d H'=> ∃Hp,Φ d Hp∧H'=Hp++H,?_,fun d H' ⟨Hp,h1,h2⟩=>h2▸hk d Hp h1⟩
 intro w L0 ε hi hx
 obtain⟨⟨fn,hf,hbody,hname⟩,h⟩:=h
 have hrun:(execOp ε o).run P w= .ok (.enter f (ax.toList.map ε++caps.toList).toArray) w:=by
  have hff:ε xf= .func (.func f) #[] caps:=by
   have:=hx xf (by simp[ho,Op.operands,Call.operands])
   rw[hE]at this;exact this
  have:=w'w hf hbody hname (ax.map ε++caps) w
  have e:(ax.toList.map ε++caps.toList).toArray=ax.map ε++caps:=by
   rw[←Array.toList_map, ←Array.toList_append]
  rw[e]
  simp[execOp,ho,resolve,Deferred.ofValue,hff,invoke,go_sem]
  exact this
 rw[hrun]
 have hargs0:RelL w (live H L0) (ax.toList.map E) (ax.toList.map ε):=by
  have: ∀l:List Operand,(∀x∈l,x∈ax.toList)→RelL w (live H L0) (l.map E) (l.map ε):=by
   intro l
   induction l with
   |nil=>intro _;rfl
   |cons x l ih=>
    intro hl
    refine⟨ε x,l.map ε,rfl,hx x ?_,ih fun y hy=>hl y (z'n _ hy)⟩
    have:=hl x (z'k ..)
    simp only[ho,Op.operands,Call.operands]
    exact Array.mem_append.2 (.inr (y'A.1 this))
  exact this _ fun _ h=>h
 have hargs:RelL w (live H L0) (ax.toList.map E++caps.toList.map D.is) (ax.toList.map ε++caps.toList):=hargs0.append _ _ _ _ (Zao _ _ _)
 have hlet:Zcd w L0 H H (live [] L0):=⟨hi,fun b c hm=>⟨hm,fun hl=>by
  rcases hl with hl|hl
  ·exact hi.apart b (z'o.2 ⟨_,hm,rfl⟩) hl
  ·cases hl⟩,fun b _ hl=>by
  rcases hl with hl|hl
  ·exact .inl hl
  ·cases hl⟩
 have hi0:HInv w L0 []:=⟨fun b c hm=>(by cases hm),w'l,fun b hb=>(by cases hb),hi.old⟩
 refine(h w L0 _ hi0 (RelL.fz hlet _ _ _ ha hargs)).mono ?_
 rintro e w' ⟨v,rfl,d,Hp,hΦ,hrel,hi',he⟩
 obtain⟨n1,n2⟩:=hp d Hp hΦ
 have hblk: ∀b,b<w.heap.size→w'.heap[b]?=w.heap[b]?:=fun b hb=>he.block b hb (by simp[Heap.blocks])
 have hlt: ∀b,b∈H.blocks→b<w.heap.size:=fun b hb=>hi.lt hb
 have hmem: ∀b,b∈(Hp++H).blocks↔b∈Hp.blocks∨b∈H.blocks:=fun b=>by simp[Heap.blocks]
 have hfr: ∀b,b∈Hp.blocks→w.heap.size≤b:=fun b hb=>(he.fresh b hb).elim (fun h=>by cases h) id
 have hevo:Evo w H w' (Hp++H):=⟨he.os,he.tape,he.output,he.size,fun b hb _=>hblk b hb,fun b hb=>by
  rcases(hmem b).1 hb with h1|h1
  ·exact .inr (hfr b h1)
  ·exact .inl h1⟩
 refine⟨v,rfl,d,Hp++H,⟨Hp,hΦ,rfl⟩,Rel.noT n1 hrel,?_,hevo⟩
 exact
  {rel:=fun b c hm=>by
    rcases y'j.1 hm with hm|hm
    ·exact HRel.no (n2 b c hm) (hi'.rel b c hm)
    ·exact(hi.rel b c hm).mono hevo.keeps (hblk b (hlt b (z'o.2 ⟨_,hm,rfl⟩)))
   nodup:=by
    simp only[Heap.blocks,z'y]
    refine z'6.2 ⟨hi'.nodup,hi.nodup,fun a ha b hb hab=>?_⟩
    subst hab
    have:=hfr a ha
    have:=hlt a hb
    omega
   apart:=fun b hb hl=>by
    rcases(hmem b).1 hb with h1|h1
    ·exact hi'.apart b h1 hl
    ·exact hi.apart b h1 hl
   old:=hi'.old}
def ZgJ:G→Bool
 | .int .. | .bool _| .str _| .ptr .. | .val _| .own .. | .nils| .off .. | .mp _| .fn .. =>true
 |_=>false
def ZkN:G→Bool
 | .agg l=>l.all ZgJ
 |g=>ZgJ g
def noG:G→Bool
 | .tup l=>l.all ZkN
 |g=>ZkN g
def noV (V:Vh):Bool:=V.all fun p=>p.2.l.all ZgJ
theorem Zmb {g:G} (h:ZgJ g=true) (σ:Nm):ZdG (g.d σ)=true:=by cases g<;>first|rfl|cases h
theorem ZeV {l:List G} (h:l.all ZgJ=true) (σ:Nm):(l.map (G.d σ)).all ZdG=true:=by
 rw[List.all_map,z'h]
 exact fun g hg=>Zmb (z'h.1 h g hg) σ
theorem ZhM {g:G} (h:ZkN g=true) (σ:Nm):ZgI (g.d σ)=true:=by
 cases g with
 |agg l=>simp only[G.d,G.dl_eq];exact ZeV h σ
 |_=>first|rfl|cases h
theorem ZjN {g:G} (h:noG g=true) (σ:Nm):noD (g.d σ)=true:=by
 cases g with
 |tup l=>
  simp only[G.d,G.dl_eq,noD,List.all_map,z'h]
  exact fun x hx=>ZhM (z'h.1 h x hx) σ
 |agg l=>exact ZhM (g:= .agg l) h σ
 |_=>first|rfl|cases h
theorem Zm6 {V:Vh} (h:noV V=true) (σ:Nm): ∀b c,(b,c)∈Vn σ V→ZkO c=true:=fun b c hm=>by
 obtain⟨p,hp,he⟩:=z'o.1 hm
 have:=z'h.1 h p hp
 cases he
 cases hq:p.2 with
 |fix ty n l=>rw[hq]at this;exact ZeV this σ
 |gro e esz l=>rw[hq]at this;exact ZeV this σ
 |mp es c=>rfl
 |it s p=>rfl
noncomputable def ZdR (b:Bool) (g:G) (V1:Vh) (nx nx1:Nat):Option (Bool×G×Vh×Nat):=match V1,gNo g with
 |[],true=>some (true,g,[],nx)
 |V1,_=>match (match b with|true=>gFz V1 8 g|false=>none)with
  |some g'=>match gNo g' with
   |true=>some (true,g',[],nx)
   |false=>some (false,g,V1,nx1)
  |none=>some (false,g,V1,nx1)
noncomputable def gFr {P:Program} (T:Tab P) (ow:Nat→G→Bool) (w:Gw) (env:Env) (V:Vh) (nx:Nat) (op:Op):Option (Bool×G×Vh×Nat):=match op with
 | .call ⟨.value xf,axs,ts⟩=>match gX env xf,gXs env axs.toList with
  |some (.fn f cs),some args=>match cs.all G.isV,(args++cs).any ZkJ with
   |true,false=>match w.tab f (args++cs)with
    |some g=>some (true,g,[],nx)
    |none=>match ZaS T w f (args++cs) [] nx with
     |some (g,V1,nx1)=>ZdR (ow f g) g V1 nx nx1
     |none=>none
   |true,true=>match w'L (gFz V 8) (args++cs)with
    |some args'=>match ZaS T w f args' [] nx with
     |some (g,V1,nx1)=>match Zgl g&&noG g,gNo g with
      |true,true=>some (true,g,[],nx)
      |_,_=>match noG g&&noV V1 with|true=>ZdR (ow f g||gNo g) g V1 nx nx1|false=>none
     |none=>none
    |none=>none
   |_,_=>none
  |_,_=>none
 | .call ⟨.invoke x name,axs,_⟩=>match Ziy T w env nx x name axs with
  |some (f,g,V1,nx1)=>ZdR (ow f g) g V1 nx nx1
  |none=>none
 | .alloc t=>match Zch t (T.get t) [] nx with|some (g,V1,nx1)=>some (false,g,V1,nx1)|none=>none
 | .box t x=>match gX env x with
  |some x=>match Zf2 t x [] nx with|some (g,V1,nx1)=>some (false,g,V1,nx1)|none=>none
  |none=>none
 | .makeSlice t l c=>match gX env l,gX env c with
  |some l,some c=>match Zd3 (kdT (T.get t)) l c [] nx with|some (g,V1,nx1)=>some (false,g,V1,nx1)|none=>none
  |_,_=>none
 | .load t x=>match gX env x with
  |some a=>match ZbI (T.get t) a V with|some g=>some (true,g,[],nx)|none=>none
  |none=>none
 | .convert t u x=>match gX env x with
  |some gx=>match Znb gx with
   |true=>match ZdZ T gx V t u with|some g=>some (true,g,[],nx)|none=>none
   |false=>match Zdy T env (.convert t u x)with|some g=>some (true,g,[],nx)|none=>none
  |none=>none
 | .lookup t m k ok=>match gX env m,gX env k with
  |some m,some k=>match ZcU P t m k ok V with|some g=>some (true,g,[],nx)|none=>none
  |_,_=>none
 |op=>match Zdy T env op with|some g=>some (true,g,[],nx)|none=>none
def nwP (nx0:Nat) (σ:Nm) (g:G) (V1:Vh) (d:D) (Hk:Heap):Prop:= ∃τ:Nm,(∀i,i<nx0→τ i=σ i)∧d=g.d τ∧Hk=Vn τ V1
def loK (lo:Nat→Prop) (nx0 nx:Nat):Nat→Prop:=fun i=>(lo i∧i<nx0)∨nx≤i
theorem Bel.loK {lo:Nat→Prop} {nx0 nx:Nat} {g:G} (h:Bel lo nx0 g) (hle:nx0≤nx):Bel (loK lo nx0 nx) nx g:=h.mono (fun i hi hl=> .inl ⟨hl,hi⟩) hle
theorem BelE.loK {lo:Nat→Prop} {nx0 nx:Nat} {env:Env} (h:BelE lo nx0 env) (hle:nx0≤nx):BelE (loK lo nx0 nx) nx env:=fun c hc g hg=>(h c hc g hg).loK hle
theorem BelL.loK {lo:Nat→Prop} {nx0 nx:Nat} {l:List G} (h:BelL lo nx0 l) (hle:nx0≤nx):BelL (loK lo nx0 nx) nx l:=fun g hg=>(h g hg).loK hle
theorem VOk.loK {lo:Nat→Prop} {nx0 nx:Nat} {V:Vh} (h:VOk lo nx0 V) (hle:nx0≤nx):VOk (loK lo nx0 nx) nx V:=fun b c hm=>by
 obtain⟨h1,h2,h3⟩:=h b c hm
 exact⟨.inl ⟨h1,h2⟩,z'm h2 hle,h3.loK hle⟩
theorem VOk.nil {lo:Nat→Prop} {hi:Nat}:VOk lo hi []:=fun b c h=>by cases h
def Zh8 (P:Program) (o:Oper) (lo:Nat→Prop) (nx0 nx:Nat) (env:Env) (V:Vh):Bool×G×Vh×Nat→Prop
 |(true,g,_,_)=>Bel lo nx0 g∧ ∀σ:Nm,(Vn σ V).blocks.Nodup→OpS P o (evD (cE σ env)) (Vn σ V) (fun d' H'=>d'=g.d σ∧H'=Vn σ V)
 |(false,g,V1,nx1)=>(nx≤nx1∧VOk (loK lo nx0 nx) nx1 V1∧Bel (loK lo nx0 nx) nx1 g)∧ ∀σ:Nm,(Vn σ V).blocks.Nodup→OpS P o (evD (cE σ env)) (Vn σ V) (fun d H'=> ∃Hk,nwP nx0 σ g V1 d Hk∧H'=Hk++Vn σ V)
theorem Zf0 {P:Program} {o:Oper} {lo:Nat→Prop} {nx0 nx nx1:Nat} {env:Env} {V V1:Vh} {g:G} (hle:nx0≤nx) (hV:VOk lo nx0 V) (h:x'd P o (loK lo nx0 nx) env V nx g (V1++V) nx1):Zh8 P o lo nx0 nx env V (false,g,V1,nx1):=by
 obtain⟨⟨h1,h2,h3⟩,h4⟩:=h
 refine⟨⟨h1,fun b c hm=>h2 b c (z'5 _ hm),h3⟩,fun σ hn=>Op1.opS (h4 σ _ hn fun σ' hag=>⟨Vn σ' V1,⟨σ',fun i hi=>hag i (z'm hi hle),rfl,rfl⟩,?_⟩)⟩
 rw[ZfL,x'3 hV (τ:=σ) fun i _ hi=>hag i (z'm hi hle)]
theorem Zdq {P:Program} {o:Oper} {lo:Nat→Prop} {nx0 nx nx1:Nat} {env:Env} {V V1:Vh} {g:G} {b:Bool} {r:Bool×G×Vh×Nat} (hle:nx0≤nx) (h:ZdR b g V1 nx nx1=some r) (h1:nx≤nx1∧VOk (loK lo nx0 nx) nx1 V1∧Bel (loK lo nx0 nx) nx1 g)
  (call: ∀(σ:Nm) (K:D→Heap→Prop),(Vn σ V).blocks.Nodup→(∀τ:Nm,(∀i,i<nx→τ i=σ i)→K (g.d τ) (Vn τ V1++Vn σ V))→Op1 P o (evD (cE σ env)) (Vn σ V) K):Zh8 P o lo nx0 nx env V r:=by
 unfold ZdR at h
 split at h
 ·rename_i hno
  cases h
  exact⟨fun σ τ _=>x'a hno σ τ,fun σ hn=>Op1.opS (call σ _ hn fun τ hag=>⟨x'a hno τ σ,rfl⟩)⟩
 ·have new:Zh8 P o lo nx0 nx env V (false,g,_,nx1):=⟨h1,fun σ hn=>Op1.opS (call σ _ hn fun τ hag=>⟨_,⟨τ,fun i hi=>hag i (z'm hi hle),rfl,rfl⟩,rfl⟩)⟩
  split at h
  ·rename_i g' hz
   split at h
   ·rename_i hno
    cases h
    split at hz
    ·refine⟨fun σ τ _=>x'a hno σ τ,fun σ hn=>OpS.freezeN (new.2 σ hn) ?_⟩
     rintro d H' ⟨Hk,⟨τ,_,rfl,rfl⟩,rfl⟩ hnd
     refine⟨_,rfl,?_⟩
     rw[x'a hno σ τ]
     rw[Heap.blocks,z'y]at hnd
     exact v'g (List.Nodup.sublist (List.sublist_append_left _ _) hnd) 8 _ _ hz
    ·cases hz
   ·cases h;exact new
  ·cases h;exact new
theorem Zbl {P:Program} {ow:Nat→G→Bool} (T:Tab P) (hN:NamesOk P) {w:Gw} (hw:x'w P w) {o:Oper} {lo:Nat→Prop} {nx0 nx:Nat} {env:Env} {V:Vh} {r:Bool×G×Vh×Nat} (hle:nx0≤nx) (hV:VOk lo nx0 V) (he:BelE lo nx0 env)
  (h:gFr T ow w env V nx o.op=some r):Zh8 P o lo nx0 nx env V r:=by
 have hup: ∀i,nx≤i→loK lo nx0 nx i:=fun i hi=> .inr hi
 unfold gFr at h
 split at h
 ·rename_i xf axs ts ho
  split at h
  ·rename_i f cs args hf has
   split at h
   ·rename_i hv _
    split at h
    ·rename_i g1 ht
     cases h
     obtain⟨q1,q2⟩:=hw.1 _ _ _ ht
     refine⟨fun σ τ _=>q1 σ τ,fun σ hn=>Op1.opS ?_⟩
     refine Op1.callG (Hp:=[]) (Hr:=Vn σ V) ho (z'u hf σ) ?_ (q2 σ) (y'f _) ?_
     ·rw[v'y hv,v'k σ has,z'y]
     ·rintro d H' ⟨rfl,rfl⟩
      exact⟨rfl,rfl⟩
    split at h
    ·rename_i g V1 nx1 hc
     have hbf:=(y'q hf he).fn_l hv
     obtain⟨⟨h1,h2,h3⟩,h4⟩:=w'2 T hN hw hc hup ((BelL.app (Zam he has) hbf).loK hle) VOk.nil
     have call: ∀(σ:Nm) (K:D→Heap→Prop),(Vn σ V).blocks.Nodup→(∀τ:Nm,(∀i,i<nx→τ i=σ i)→K (g.d τ) (Vn τ V1++Vn σ V))→Op1 P o (evD (cE σ env)) (Vn σ V) K:=fun σ K _ hk=>by
      refine Op1.callG (Hp:=Vn σ []) (Hr:=Vn σ V) ho (z'u hf σ) ?_ (h4 σ) (y'f _) ?_
      ·rw[v'y hv,v'k σ has,z'y]
      ·rintro d H' ⟨σ',hag,rfl,rfl⟩;exact hk σ' hag
     exact Zdq hle h ⟨h1,h2,h3⟩ call
    ·cases h
   ·rename_i hv _
    have hbf:=(y'q hf he).fn_l hv
    have hba:BelL lo nx0 (args++cs):=BelL.app (Zam he has) hbf
    split at h
    ·rename_i args' hfz
     have hfzL: ∀σ:Nm,(Vn σ V).blocks.Nodup→FzL (Vn σ V) (args'.map (G.d σ)) (axs.toList.map (evD (cE σ env))++(cs.map (G.v σ)).toArray.toList.map D.is):=fun σ hn=>by
      rw[v'y hv,v'k σ has, ←List.map_append]
      exact Zau (v'g hn 8) hfz
     split at h
     ·rename_i g V1 nx1 hc
      split at h
      ·rename_i hp hno
       cases h
       rw[z'b]at hp
       refine⟨fun σ τ _=>x'a hno σ τ,fun σ hn=>Op1.opS ?_⟩
       obtain⟨_,h4⟩:=w'2 T hN hw hc hup ((w't (ZeA hV 8) hba hfz).loK hle) VOk.nil
       have hF:Fun P f (args'.map (G.d σ)) [] false (fun d H'=>d=g.d σ∧H'=[]):=by
        have h5:=h4 σ
        refine⟨h5.1,fun wd L0 vs hi hr=>(h5.2 wd L0 vs hi hr).mono ?_⟩
        rintro e w' ⟨v,hv,d,H',⟨σ',hag,rfl,rfl⟩,hrel,hinv,hevo⟩
        have hs:([]:Heap).Sublist (Vn σ' V1):=z'T _
        refine⟨v,hv,g.d σ,[],⟨rfl,rfl⟩,?_,SubH.inv hs hinv,SubH.evo hs hevo⟩
        rw[x'a hno σ σ']
        exact Rel.plain (Zfa hp.1 σ') hrel
       refine Op1.lendN ho (z'u hf σ) hF (hfzL σ hn) ?_ ?_
       ·rintro d Hp ⟨rfl,rfl⟩
        exact⟨ZjN hp.2 σ,fun b c hm=>by cases hm⟩
       ·rintro d Hp ⟨rfl,rfl⟩
        exact⟨rfl,rfl⟩
      ·split at h
       ·rename_i hno
        rw[z'b]at hno
        obtain⟨h3,h4⟩:=w'2 T hN hw hc hup ((w't (ZeA hV 8) hba hfz).loK hle) VOk.nil
        refine Zdq hle h h3 fun σ K hn hk=>?_
        refine Op1.lendN ho (z'u hf σ) (h4 σ) (hfzL σ hn) ?_ ?_
        ·rintro d Hp ⟨σ',_,rfl,rfl⟩
         exact⟨ZjN hno.1 σ',Zm6 hno.2 σ'⟩
        ·rintro d Hp ⟨σ',hag,rfl,rfl⟩
         exact hk σ' hag
       ·cases h
     ·cases h
    ·cases h
   ·cases h
  ·cases h
 ·rename_i x name axs ts ho
  split at h
  ·rename_i fi g1 V1 nx1 hi
   obtain⟨a1,a2⟩:=ZhA T hN hw ho hup (BelE.loK he hle) hi
   exact Zdq hle h a1 fun σ K _ hk=>a2 σ _ K hk
  ·cases h
 ·rename_i t ho
  split at h
  ·rename_i g V1 nx1 hg
   cases h
   refine Zf0 hle hV (Ze6 T ho hup (hV.loK hle) ?_)
   unfold Zch at hg⊢
   split at hg
   ·cases hg
   ·split at hg
    ·split at hg<;>cases hg;rfl
    ·cases hg
  ·cases h
 ·rename_i t x ho
  split at h
  ·rename_i gx hx
   split at h
   ·rename_i g V1 nx1 hg
    cases h
    refine Zf0 hle hV (Zht ho hup (hV.loK hle) (BelE.loK he hle) hx ?_)
    unfold Zf2 at hg⊢
    split at hg
    ·split at hg<;>cases hg;rfl
    ·cases hg
   ·cases h
  ·cases h
 ·rename_i t l c ho
  split at h
  ·rename_i gl gc hl hc
   split at h
   ·rename_i g V1 nx1 hg
    cases h
    refine Zf0 hle hV (Zgd T ho hup (hV.loK hle) hl hc ?_)
    unfold Zd3 at hg⊢
    split at hg
    ·split at hg
     ·split at hg
      ·rw[y'x]at hg⊢;cases hg;rfl
      ·cases hg
     ·cases hg
    ·cases hg
   ·cases h
  ·cases h
 ·rename_i t x ho
  split at h
  ·rename_i a ha
   split at h
   ·rename_i g hg
    cases h
    refine⟨Ze8 hg (y'q ha he) hV,fun σ hn=>Op1.opS (ZgP T ho ?_)⟩
    rw[z'u ha]
    exact Zgc hg hn ⟨rfl,rfl⟩
   ·cases h
  ·cases h
 ·rename_i t u x ho
  split at h
  ·rename_i gx hx
   split at h
   ·split at h
    ·rename_i g hg
     cases h
     obtain⟨q1,q2⟩:=Ze7 T ho hx hg
     exact⟨q1,fun σ hn=>Op1.opS (q2 σ _ hn ⟨rfl,rfl⟩)⟩
    ·cases h
   ·split at h
    ·rename_i g hg
     cases h
     rw[←ho]at hg
     exact⟨Zdz T hg he,fun σ hn=>Op1.opS (ZeJ T hg ⟨rfl,rfl⟩)⟩
    ·cases h
  ·cases h
 ·rename_i ho
  split at h
  ·rename_i h1 h2
   split at h
   ·rename_i g hg
    cases h
    obtain⟨q1,q2⟩:=Zd2 (lo:=lo) (nx:=nx0) ho hV h1 h2 hg
    exact⟨q1,fun σ hn=>Op1.opS (q2 σ _ hn ⟨rfl,rfl⟩)⟩
   ·cases h
  ·cases h
 ·split at h
  ·rename_i g hg
   cases h
   exact⟨Zdz T hg he,fun σ hn=>Op1.opS (ZeJ T hg ⟨rfl,rfl⟩)⟩
  ·cases h
end Go.Vc
