/- Calls at fixed data, reckoned out: calls; operations one behind the other. No condition. -/
import Derived.Test.YtjlnkedmbfdofaaGreatEe
import Derived.Test.YtjlnkedmbfdofaaGreatRd
namespace Go.Vc
set_option linter.unusedSimpArgs false
set_option linter.unusedVariables false
open Go
inductive Ge where
 |nm
 |gt (l:Nat)
 |ex (i:Nat)
 |rt
def Ge.x:Ge→Exit
 | .nm=> .normal
 | .gt l=> .goto l
 | .ex i=> .exit i
 | .rt=> .ret
structure Gs where
 env:Env
 V:Vh
 nx:Nat
structure Gw where
 tab:Nat→List G→Option G
 run:Nat→Code→Gs→Option (Ge×Gs)
structure GOk (lo:Nat→Prop) (n:Nat) (s:Gs):Prop where
 len:ELen n s.env
 up: ∀i,s.nx≤i→lo i
 env:BelE lo s.nx s.env
 V:VOk lo s.nx s.V
noncomputable abbrev Gs.st (σ:Nm) (s:Gs):St:=⟨cE σ s.env,Vn σ s.V⟩
def TabOk (P:Program) (tab:Nat→List G→Option G):Prop:= ∀(f:Nat) (args:List G) (g:G),tab f args=some g→(∀σ τ:Nm,g.d σ=g.d τ)∧ ∀σ:Nm,Pure P f (args.map (G.d σ)) (g.d σ)
theorem TabOk.none {P:Program}:TabOk P fun _ _=>none:=fun _ _ _ h=>by cases h
def x'w (P:Program) (w:Gw):Prop:=TabOk P w.tab∧ ∀(lo:Nat→Prop) (n:Nat) (c:Code) (s:Gs) (e:Ge) (s':Gs),w.run n c s=some (e,s')→GOk lo n s→
 (s.nx≤s'.nx∧GOk lo n s')∧ ∀(σ:Nm) (Q:Exit→St→Prop),(∀σ':Nm,(∀i,i<s.nx→σ' i=σ i)→Q e.x (s'.st σ'))→VC P n c (s.st σ) Q
def NamesOk (P:Program):Prop:= ∀(f:Nat) (fn:Func),P.funcs[f]?=some fn→(fn.name == "runtime.NumGoroutine")=false
theorem NamesOk.of {P:Program} (h:P.funcs.toList.all (fun fn=> !(fn.name == "runtime.NumGoroutine"))=true):NamesOk P:=fun f fn hf=>by
 have:=z'h.1 h fn (y'A.2 (Array.mem_of_getElem? hf))
 simpa using this
noncomputable def Zax {P:Program} (T:Tab P) (env:Env) (V:Vh):List ResultVar→Option (List G)
 |[]=>some []
 | .tmp t::r=>match Zax T env V r with|some l=>some (eAt env t::l)|none=>none
 | .cell a t::r=>match eAt env a with
  | .ptr b 0=>match w'b V b with
   |some c=>match (T.get t).known&&Nat.beq (T.get t).size c.l.length,Zax T env V r with
    |true,some rest=>match (T.get t).agg,c.l with
     |true,l=>some (.agg l::rest)
     |false,[d]=>some (d::rest)
     |_,_=>none
    |_,_=>none
   |none=>none
  |_=>none
theorem Zbv {env:Env} {t:Nat} (σ:Nm):cE σ env t=(eAt env t).d σ:=by rfl
theorem Zbn {P:Program} (T:Tab P) {env:Env} {V:Vh} {σ:Nm} (hn:(Vn σ V).blocks.Nodup): ∀{rs:List ResultVar} {gs:List G},Zax T env V rs=some gs→v'2 T ⟨cE σ env,Vn σ V⟩ rs (gs.map (G.d σ))
 |[],gs,h=>by cases h;rfl
 | .tmp t::r,gs,h=>by
  unfold Zax at h
  split at h
  ·rename_i l hl
   cases h
   exact⟨_,by rw[z'g, ←Zbv],Zbn T hn hl⟩
  ·cases h
 | .cell a t::r,gs,h=>by
  unfold Zax at h
  split at h
  ·rename_i b ha
   split at h
   ·rename_i c hc
    split at h
    ·rename_i rest hb hr
     rw[z'b]at hb
     have hm:=y'H (x'i hn hc)
     obtain⟨ty',n',hcc⟩:=VB.c_cells σ b c (x'B hc)
     have hcc':=hcc c.l
     rw[VB.put_l]at hcc'
     rw[hcc']at hm
     have e1:cE σ env a= .is (.pointer (some ⟨(σ b).1,0,none⟩)):=by rw[Zbv,ha];rfl
     have e2:(T.get t).size=(c.l.map (G.d σ)).length:=by rw[z'f];exact z'd hb.2
     split at h
     ·rename_i hag
      cases h
      refine⟨_,_,_,_,rest.map (G.d σ),e1,hm,hb.1,e2,?_,Zbn T hn hr⟩
      rw[hag]
      simp only[z'g,G.d,G.dl_eq]
     ·rename_i d hag hl
      cases h
      refine⟨_,_,_,_,rest.map (G.d σ),e1,hm,hb.1,e2,?_,Zbn T hn hr⟩
      rw[hag,hl]
      exact⟨_,rfl,rfl⟩
     ·cases h
    ·cases h
   ·cases h
  ·cases h
theorem ZbM {P:Program} (T:Tab P) {env:Env} {V:Vh} {lo:Nat→Prop} {hi:Nat} (he:BelE lo hi env) (hV:VOk lo hi V): ∀{rs:List ResultVar} {gs:List G},Zax T env V rs=some gs→BelL lo hi gs
 |[],gs,h=>by cases h;intro g hg;cases hg
 | .tmp t::r,gs,h=>by
  unfold Zax at h
  split at h
  ·rename_i l hl
   cases h
   intro g hg
   rcases z'p.1 hg with rfl|hg
   ·exact ZcN he t
   ·exact ZbM T he hV hl g hg
  ·cases h
 | .cell a t::r,gs,h=>by
  unfold Zax at h
  split at h
  ·split at h
   ·rename_i c hc
    have hb:=(hV _ _ (x'C hc)).2.2
    split at h
    ·rename_i rest _ hr
     split at h
     ·cases h
      intro g hg
      rcases z'p.1 hg with rfl|hg
      ·exact Bel.agg hb
      ·exact ZbM T he hV hr g hg
     ·rename_i d _ hl
      cases h
      intro g hg
      rcases z'p.1 hg with rfl|hg
      ·exact hb g (by rw[hl];exact z'k ..)
      ·exact ZbM T he hV hr g hg
     ·cases h
    ·cases h
   ·cases h
  ·cases h
def ZcG:List G→G
 |[g]=>g
 |gs=> .tup gs
theorem ZhY (σ:Nm): ∀gs:List G,v'q (gs.map (G.d σ))=(ZcG gs).d σ
 |[]=>rfl
 |[g]=>rfl
 |g::h::r=>by simp only[z'g,v'q,ZcG,G.d,G.dl_eq]
theorem Zk0 {lo:Nat→Prop} {hi:Nat}: ∀{gs:List G},BelL lo hi gs→Bel lo hi (ZcG gs)
 |[],_=>fun _ _ _=>rfl
 |[g],h=>h g (z'k ..)
 |g::h::r,k=>Bel.tup k
mutual
def G.ids:G→List Nat→List Nat
 | .ptr b _,a=>b::a
 | .own b _,a=>b::a
 | .off b _ _ _,a=>b::a
 | .mp b,a=>b::a
 | .sl _ _ rows,a=>G.idr rows a
 | .pt l,a=>G.idl l a
 | .agg l,a=>G.idl l a
 | .tup l,a=>G.idl l a
 | .ifc _ g,a=>G.ids g a
 | .fn _ cs,a=>G.idl cs a
 |_,a=>a
def G.idl:List G→List Nat→List Nat
 |[],a=>a
 |g::r,a=>G.ids g (G.idl r a)
def G.idr:List (List G)→List Nat→List Nat
 |[],a=>a
 |g::r,a=>G.idl g (G.idr r a)
end
noncomputable def v'n (i:Nat) (l:List Nat):Bool:=List.rec false (fun x _ ih=>match Nat.beq x i with|true=>true|false=>ih) l
noncomputable def Zaw (V:Vh) (nx:Nat):Nat→List Nat→List Nat→List Nat
 |0,_,acc=>acc
 |_+1,[],acc=>acc
 |n+1,b::r,acc=>match Nat.blt b nx||v'n b acc with
  |true=>Zaw V nx n r acc
  |false=>match x'T V b with
   |some c=>Zaw V nx n (G.idl c.l r) (b::acc)
   |none=>Zaw V nx n r acc
noncomputable def ZeZ {R:Type} (V:Vh):(Nat→Bool)→(Vh→R)→R:=List.rec (fun _ k=>k []) (fun p _ ih f k=>match f p.1 with|true=>ih f fun W=>k (p::W)|false=>ih f k) V
theorem Zda {R:Type}: ∀(V:Vh) (f:Nat→Bool) (k:Vh→R),ZeZ V f k=k (V.filter fun p=>f p.1)
 |[],f,k=>rfl
 |p::V,f,k=>by
  show(match f p.1 with|true=>ZeZ V f fun W=>k (p::W)|false=>ZeZ V f k)=_
  cases h:f p.1 with
  |true=>rw[y'R (p:=fun q:Nat×VB=>f q.1) h];exact Zda V f _
  |false=>rw[List.filter_cons_of_neg (p:=fun q:Nat×VB=>f q.1) (by simp[h])];exact Zda V f _
def ZgR:Vh→Nat→List Nat→List Nat
 |[],_,a=>a
 |p::V,nx,a=>match Nat.blt p.1 nx with|true=>G.idl p.2.l (ZgR V nx a)|false=>ZgR V nx a
noncomputable def Zls (V:Vh) (nx:Nat) (g:G):Nat→Bool:=
 let ids:=Zaw V nx 1000 (ZgR V nx (G.ids g [])) []
 fun i=>match Nat.blt i nx with|true=>true|false=>v'n i ids
def c8:List G:=[.any,.any,.any,.any,.any,.any,.any,.any]
noncomputable def ZcM {R:Type}:List G→Nat→Env→(Env→R)→R
 |[],_,env,k=>k env
 |a::r,i,env,k=>gPl a fun a=>Zet env i a fun env=>ZcM r (i+1) env k
def v'H:List G→Nat→Env→Env
 |[],_,env=>env
 |a::r,i,env=>v'H r (i+1) (v'x env i a)
theorem Zbx {R:Type}: ∀(l:List G) (i:Nat) (env:Env) (k:Env→R),ZcM l i env k=k (v'H l i env)
 |[],i,env,k=>rfl
 |a::r,i,env,k=>by rw[ZcM,Zco,ZcO,Zbx r];rfl
theorem ZaO {n:Nat}: ∀(l:List G) (i:Nat) (env:Env),ELen n env→ELen n (v'H l i env)
 |[],i,env,h=>h
 |a::r,i,env,h=>ZaO r (i+1) _ (Zar h i a)
theorem ZaN {lo:Nat→Prop} {hi:Nat}: ∀(l:List G) (i:Nat) (env:Env),BelL lo hi l→BelE lo hi env→BelE lo hi (v'H l i env)
 |[],i,env,_,h=>h
 |a::r,i,env,hl,h=>ZaN r (i+1) _ (fun x hx=>hl x (z'n _ hx)) (Zbz h i (hl a (z'k ..)))
theorem ZfW {n:Nat}: ∀(l:List G) (i:Nat) (env:Env),ELen n env→i+l.length≤n→ ∀t,eAt (v'H l i env) t=if i≤t∧t<i+l.length then l.getD (t-i) .any else eAt env t
 |[],i,env,h,_,t=>by rw[if_neg (by simp only[x'c];omega)];rfl
 |a::r,i,env,h,hn,t=>by
  rw[z'A]at hn
  rw[v'H,ZfW r (i+1) _ (Zar h i a) (by omega),Zhr h (by omega),z'A]
  by_cases e:i=t
  ·subst e
   rw[if_neg (by omega),if_pos rfl,if_pos (by omega),Nat.sub_self];rfl
  ·rw[if_neg e]
   by_cases h1:i+1≤t∧t<i+1+r.length
   ·rw[if_pos h1,if_pos (by omega),show t-i=(t-(i+1))+1 by omega,List.getD_cons_succ]
   ·rw[if_neg h1,if_neg (by omega)]
theorem Zny (m t:Nat):eAt (List.replicate m c8) t= .any:=by
 rw[Zby,z'e,z'e,List.getElem?_replicate]
 have h8: ∀k:Nat,(c8[k]?).getD G.any= .any:=fun k=>by
  cases hq:c8[k]? with
  |none=>rfl
  |some g=>have:=z'F hq;simpa[c8]using this
 by_cases q:Nat.div t 8<m
 ·rw[if_pos q];exact h8 _
 ·rw[if_neg q];rfl
theorem ZdO (n:Nat):ELen n (List.replicate (n/8+1) c8):=⟨fun c hc=>by rw[(List.mem_replicate.1 hc).2];rfl,by rw[x'R];omega⟩
theorem ZfS {lo:Nat→Prop} {hi m:Nat}:BelE lo hi (List.replicate m c8):=fun c hc g hg=>by
 rw[(List.mem_replicate.1 hc).2]at hg
 have:g= .any:=by simpa[c8]using hg
 subst this;exact Bel.any
noncomputable def ZaS {P:Program} (T:Tab P) (w:Gw) (f:Nat) (args:List G) (V:Vh) (nx:Nat):Option (G×Vh×Nat):=match P.funcs[f]? with
 |none=>none
 |some fn=>match fn.body with
  |none=>none
  |some c=>match Nat.ble args.length fn.ntmps with
   |false=>none
   |true=>x'F (List.replicate (fn.ntmps/8+1) c8) fun sk=>ZcM args 0 sk fun env=>match w.run fn.ntmps c ⟨env,V,nx⟩with
    |none=>none
    |some (e,s)=>match (match e with| .ex _=>none| .gt _=>none|_=>Zax T s.env s.V fn.results.toList)with
     |none=>none
     |some gs=>gPl (ZcG gs) fun g=>ZeZ s.V (Zls s.V nx g) fun W=>some (g,W,s.nx)
theorem Zhn: ∀(l:List D) (i t:Nat),v'c l i t=if i≤t then l.getD (t-i) .any else .any
 |[],i,t=>by simp[v'c]
 |d::r,i,t=>by
  simp only[v'c,upd,Zhn r (i+1) t]
  by_cases h:i=t
  ·subst h;simp
  ·have:(i == t)=false:=by simpa using h
   rw[this,cond_false]
   by_cases h1:i≤t
   ·rw[if_pos h1,if_pos (by omega),show t-i=(t-(i+1))+1 by omega,List.getD_cons_succ]
   ·rw[if_neg h1,if_neg (by omega)]
theorem Zep (σ:Nm) (args:List G) {n:Nat} (h:args.length≤n):v'c (args.map (G.d σ)) 0=cE σ (v'H args 0 (List.replicate (n/8+1) c8)):=by
 funext t
 rw[Zhn,if_pos (z'Q _),Nat.sub_zero]
 simp only[cE]
 rw[ZfW args 0 _ (ZdO n) (by omega),Zny]
 simp only[z'e,y'c]
 by_cases h:t<args.length
 ·rw[if_pos (by omega),z'l h,Nat.sub_zero,z'l h];rfl
 ·rw[if_neg (by omega),z'X (by omega)];rfl
theorem v'O (σ:Nm) (V:Vh) (f:Nat×VB→Bool):(Vn σ (V.filter f)).Sublist (Vn σ V):=List.Sublist.map _ List.filter_sublist
theorem VOk.filter {lo:Nat→Prop} {hi:Nat} {V:Vh} (h:VOk lo hi V) (f:Nat×VB→Bool):VOk lo hi (V.filter f):=fun b c hm=>h b c (y'W.1 hm).1
theorem VC.nodupH {P:Program} {n:Nat} {c:Code} {s:St} {Q:Exit→St→Prop} (h:VC P n c s (fun e s=>s.heap.blocks.Nodup→Q e s)):VC P n c s Q:=fun x a w hn hs=>by
 refine wp_mono (h x a w hn hs) ?_
 rintro e a' w' ⟨s',hq,hr⟩
 exact⟨s',hq hr.inv.nodup,hr⟩
theorem w'2 {P:Program} (T:Tab P) (hN:NamesOk P) {w:Gw} (hw:x'w P w) {lo:Nat→Prop} {f nx nx':Nat} {args:List G} {V V':Vh} {g:G} (h:ZaS T w f args V nx=some (g,V',nx')) (hup: ∀i,nx≤i→lo i) (ha:BelL lo nx args)
  (hV:VOk lo nx V):(nx≤nx'∧VOk lo nx' V'∧Bel lo nx' g)∧ ∀σ:Nm,Fun P f (args.map (G.d σ)) (Vn σ V) false (fun d H'=> ∃σ':Nm,(∀i,i<nx→σ' i=σ i)∧d=g.d σ'∧H'=Vn σ' V'):=by
 unfold ZaS at h
 split at h
 ·cases h
 rename_i fn hf
 split at h
 ·cases h
 rename_i c hb
 split at h
 ·cases h
 rename_i hle
 rw[y'x,Zbx]at h
 split at h
 ·cases h
 rename_i e s hs
 split at h
 ·cases h
 rename_i gs hgs
 rw[Zco,Zda]at h
 cases h
 have hle':=z'i hle
 have h0:GOk lo fn.ntmps ⟨v'H args 0 (List.replicate (fn.ntmps/8+1) c8),V,nx⟩:=⟨ZaO _ _ _ (ZdO _),hup,ZaN _ _ _ ha ZfS,hV⟩
 obtain⟨⟨h1,h2⟩,h3⟩:=hw.2 lo _ _ _ _ _ hs h0
 have hgs':Zax T s.env s.V fn.results.toList=some gs:=by
  split at hgs
  ·cases hgs
  ·cases hgs
  ·exact hgs
 refine⟨⟨h1,h2.V.filter _,Zk0 (ZbM T h2.env h2.V hgs')⟩,fun σ=>?_⟩
 refine Fun.of T (c:=c) (n:=fn.ntmps) fn.results.toList hf hb rfl (by simp) (by rw[z'f];exact hle) (hN f fn hf) ?_
 rw[Zep σ args hle']
 refine VC.nodupH (h3 σ _ fun σ' hag hnd=>?_)
 have key: ∃ds H',v'2 T (s.st σ') fn.results.toList ds∧H'.Sublist (Vn σ' s.V)∧ ∃σ':Nm,(∀i,i<nx→σ' i=σ i)∧v'q ds=(ZcG gs).d σ'∧H'=Vn σ' (s.V.filter fun p=>Zls s.V nx (ZcG gs) p.1):=
  ⟨_,_,Zbn T hnd hgs',v'O σ' s.V _,σ',hag,ZhY σ' gs,rfl⟩
 cases e with
 |nm=>exact key
 |rt=>exact key
 |gt l=>cases hgs
 |ex i=>cases hgs
noncomputable def w'L (f:G→Option G):List G→Option (List G)
 |[]=>some []
 |g::r=>match f g with
  |some g'=>match w'L f r with|some l=>some (g'::l)|none=>none
  |none=>none
noncomputable def gFz (V:Vh):Nat→G→Option G
 |0,_=>none
 |n+1,.own b k=>match w'b V b with
  |some (.gro e esz l)=>match Nat.ble (k*esz) l.length with
   |true=>match w'L (gFz V n) (l.take (k*esz))with|some l'=>x'F l' fun l'=>some (.sl false esz (ZbN esz k l'))|none=>none
   |false=>none
  |_=>none
 |n+1,.off b o k _=>match w'b V b with
  |some (.gro e esz l)=>match Nat.ble (o+k*esz) l.length with
   |true=>match w'L (gFz V n) ((l.drop o).take (k*esz))with|some l'=>x'F l' fun l'=>some (.sl false esz (ZbN esz k l'))|none=>none
   |false=>none
  |_=>none
 |n+1,.ptr b o=>match w'b V b with
  |some c=>match w'L (gFz V n) (c.l.drop o)with|some l'=>x'F l' fun l'=>some (.pt l')|none=>none
  |none=>none
 |n+1,.agg l=>match w'L (gFz V n) l with|some l'=>x'F l' fun l'=>some (.agg l')|none=>none
 |n+1,.tup l=>match w'L (gFz V n) l with|some l'=>x'F l' fun l'=>some (.tup l')|none=>none
 |_+1,g=>some g
theorem Zdu {f:G→Option G}: ∀{l l':List G},w'L f l=some l'→l'.length=l.length
 |[],l',h=>by cases h;rfl
 |g::r,l',h=>by
  unfold w'L at h
  split at h
  ·split at h
   ·rename_i hr;cases h;rw[z'A,z'A,Zdu hr]
   ·cases h
  ·cases h
theorem ZbJ {H:Heap} {σ:Nm} {f:G→Option G} (hf: ∀g g',f g=some g'→Fz H (g'.d σ) (g.d σ)): ∀{l l':List G} (r:List D),w'L f l=some l'→FzC H (l'.map (G.d σ)) (l.map (G.d σ)++r)
 |[],l',r,h=>by cases h;exact trivial
 |g::k,l',r,h=>by
  unfold w'L at h
  split at h
  ·rename_i g' hg
   split at h
   ·rename_i l hr
    cases h
    exact⟨_,_,rfl,hf _ _ hg,ZbJ hf r hr⟩
   ·cases h
  ·cases h
theorem Zau {H:Heap} {σ:Nm} {f:G→Option G} (hf: ∀g g',f g=some g'→Fz H (g'.d σ) (g.d σ)): ∀{l l':List G},w'L f l=some l'→FzL H (l'.map (G.d σ)) (l.map (G.d σ))
 |[],l',h=>by cases h;rfl
 |g::k,l',h=>by
  unfold w'L at h
  split at h
  ·rename_i g' hg
   split at h
   ·rename_i l hr
    cases h
    exact⟨_,_,rfl,hf _ _ hg,Zau hf hr⟩
   ·cases h
  ·cases h
theorem FzC.take {H:Heap}: ∀(n:Nat) (l' l:List D),FzC H l' l→FzC H (l'.take n) l
 |0,l',l,h=>by simp[FzC]
 |n+1,[],l,h=>by simp[FzC]
 |n+1,d::ds,l,h=>by
  obtain⟨e,es,rfl,h1,h2⟩:=h
  exact⟨e,es,rfl,h1,FzC.take n ds es h2⟩
theorem FzC.drop {H:Heap}: ∀(n:Nat) (l' l:List D),FzC H l' l→FzC H (l'.drop n) (l.drop n)
 |0,l',l,h=>by simpa using h
 |n+1,[],l,h=>by simp[FzC]
 |n+1,d::ds,l,h=>by
  obtain⟨e,es,rfl,h1,h2⟩:=h
  simpa using FzC.drop n ds es h2
theorem Zaq {H:Heap} {esz:Nat}: ∀(k:Nat) (l' l:List D),l'.length=k*esz→FzC H l' l→FzR H esz (x'z esz k l') l
 |0,l',l,_,_=>trivial
 |k+1,l',l,hl,h=>by
  rw[x'z]
  refine⟨?_,FzC.take _ _ _ h,Zaq k _ _ ?_ (FzC.drop _ _ _ h)⟩
  ·rw[z'z,hl,y'F];omega
  ·rw[y'k,hl,y'F];omega
theorem Zb7 (esz:Nat): ∀(k:Nat) (l:List D),(x'z esz k l).length=k
 |0,l=>rfl
 |k+1,l=>by rw[x'z,z'A,Zb7 esz k]
theorem v'g {V:Vh} {σ:Nm} (hn:(Vn σ V).blocks.Nodup): ∀(n:Nat) (g g':G),gFz V n g=some g'→Fz (Vn σ V) (g'.d σ) (g.d σ)
 |0,g,g',h=>by cases h
 |n+1,g,g',h=>by
  have ih:=v'g hn n
  unfold gFz at h
  split at h
  ·cases h
  ·rename_i n' b k hnn
   cases hnn
   split at h
   ·rename_i e esz l hc
    split at h
    ·rename_i hb
     have hb:=z'i hb
     split at h
     ·rename_i l' hm
      rw[y'x]at h
      cases h
      have hl:=Zdu hm
      have h1:=ZbJ (σ:=σ) (H:=Vn σ V) ih (((l.drop (k*esz))).map (G.d σ)) hm
      rw[←List.map_append,x'S]at h1
      refine .inr ⟨rfl,.inr (.inr ⟨(σ b).1,0,k,(σ b).2,.inl ⟨rfl,rfl⟩,?_,_,_,l.map (G.d σ),y'H (x'i hn hc),?_⟩)⟩
      ·rw[G.dr_eq,z'f, ←List.length_map (f:=List.map (G.d σ)), ←v'C,Zb7]
      ·rw[G.dr_eq, ←v'C,y'T]
       refine Zaq k _ _ ?_ h1
       rw[z'f,hl,z'z];omega
     ·cases h
    ·cases h
   ·cases h
  ·rename_i n' b o k c hnn
   cases hnn
   split at h
   ·rename_i e esz l hc
    split at h
    ·rename_i hb
     have hb:=z'i hb
     split at h
     ·rename_i l' hm
      rw[y'x]at h
      cases h
      have hl:=Zdu hm
      have h1:=ZbJ (σ:=σ) (H:=Vn σ V) ih ((((l.drop o)).drop (k*esz)).map (G.d σ)) hm
      rw[←List.map_append,x'S]at h1
      refine .inr ⟨rfl,.inr (.inr ⟨(σ b).1,o,k,(σ b).2-c,.inr rfl,?_,_,_,l.map (G.d σ),y'H (x'i hn hc),?_⟩)⟩
      ·rw[G.dr_eq,z'f, ←List.length_map (f:=List.map (G.d σ)), ←v'C,Zb7]
      ·rw[G.dr_eq, ←v'C, ←List.map_drop]
       refine Zaq k _ _ ?_ h1
       rw[z'f,hl,z'z,y'k];omega
     ·cases h
    ·cases h
   ·cases h
  ·rename_i n' b o hnn
   cases hnn
   split at h
   ·rename_i c hc
    split at h
    ·rename_i l' hm
     rw[y'x]at h
     cases h
     obtain⟨ty',n',hcc⟩:=VB.c_cells σ b c (x'B hc)
     have hcc':=hcc c.l
     rw[VB.put_l]at hcc'
     have hg:=y'H (x'i hn hc)
     rw[hcc']at hg
     refine .inr ⟨(σ b).1,o,_,_,_,rfl,hg,?_⟩
     rw[G.dl_eq, ←List.map_drop]
     have h1:=ZbJ (σ:=σ) (H:=Vn σ V) ih [] hm
     rw[z'x]at h1
     exact h1
    ·cases h
   ·cases h
  ·rename_i n' l hnn
   cases hnn
   split at h
   ·rename_i l' hm
    rw[y'x]at h
    cases h
    simp only[G.d,G.dl_eq]
    exact⟨_,rfl,Zau ih hm⟩
   ·cases h
  ·rename_i n' l hnn
   cases hnn
   split at h
   ·rename_i l' hm
    rw[y'x]at h
    cases h
    simp only[G.d,G.dl_eq]
    exact⟨_,rfl,Zau ih hm⟩
   ·cases h
  ·cases h
   exact Fz.refl _ _
theorem w't {lo:Nat→Prop} {hi:Nat} {f:G→Option G} (hf: ∀g g',Bel lo hi g→f g=some g'→Bel lo hi g'): ∀{l l':List G},BelL lo hi l→w'L f l=some l'→BelL lo hi l'
 |[],l',_,h=>by cases h;intro g hg;cases hg
 |g::r,l',hb,h=>by
  unfold w'L at h
  split at h
  ·rename_i g' hg
   split at h
   ·rename_i l hr
    cases h
    intro x hx
    rcases z'p.1 hx with rfl|hx
    ·exact hf _ _ (hb g (z'k ..)) hg
    ·exact w't hf (fun y hy=>hb y (z'n _ hy)) hr x hx
   ·cases h
  ·cases h
theorem ZeA {lo:Nat→Prop} {hi:Nat} {V:Vh} (hV:VOk lo hi V): ∀(n:Nat) (g g':G),Bel lo hi g→gFz V n g=some g'→Bel lo hi g'
 |0,g,g',_,h=>by cases h
 |n+1,g,g',hg,h=>by
  have ih:=ZeA hV n
  unfold gFz at h
  split at h
  ·cases h
  ·rename_i n' b k hnn
   cases hnn
   split at h
   ·rename_i hc
    split at h
    ·split at h
     ·rename_i l' hm
      rw[y'x]at h
      cases h
      exact Bel.sl (ZaV _ _ _ (w't ih (BelL.take (hV _ _ (x'C hc)).2.2 _) hm))
     ·cases h
    ·cases h
   ·cases h
  ·rename_i n' b o k c hnn
   cases hnn
   split at h
   ·rename_i hc
    split at h
    ·split at h
     ·rename_i l' hm
      rw[y'x]at h
      cases h
      exact Bel.sl (ZaV _ _ _ (w't ih (BelL.take (BelL.drop (hV _ _ (x'C hc)).2.2 _) _) hm))
     ·cases h
    ·cases h
   ·cases h
  ·rename_i n' b o hnn
   cases hnn
   split at h
   ·rename_i hc
    split at h
    ·rename_i l' hm
     rw[y'x]at h
     cases h
     exact Bel.pt (w't ih (BelL.drop (hV _ _ (x'C hc)).2.2 _) hm)
    ·cases h
   ·cases h
  ·rename_i n' l hnn
   cases hnn
   split at h
   ·rename_i l' hm
    rw[y'x]at h
    cases h
    exact Bel.agg (w't ih hg.agg_l hm)
   ·cases h
  ·rename_i n' l hnn
   cases hnn
   split at h
   ·rename_i l' hm
    rw[y'x]at h
    cases h
    exact Bel.tup (w't ih hg.tup_l hm)
   ·cases h
  ·cases h;exact hg
mutual
theorem Zc0: ∀(g:G) (a:List Nat) (i:Nat),i∈G.ids g a↔i∈G.ids g []∨i∈a
 | .int k n,a,i=>by simp[G.ids]
 | .bool b,a,i=>by simp[G.ids]
 | .str l,a,i=>by simp[G.ids]
 | .ptr b o,a,i=>by simp[G.ids]
 | .val v,a,i=>by simp[G.ids]
 | .sl f e rows,a,i=>ZhH rows a i
 | .pt l,a,i=>v'F l a i
 | .own b n,a,i=>by simp[G.ids]
 | .nils,a,i=>by simp[G.ids]
 | .off b o n c,a,i=>by simp[G.ids]
 | .agg l,a,i=>v'F l a i
 | .tup l,a,i=>v'F l a i
 | .ifc t g,a,i=>Zc0 g a i
 | .fn f cs,a,i=>v'F cs a i
 | .mp b,a,i=>by simp[G.ids]
 | .any,a,i=>by simp[G.ids]
theorem v'F: ∀(l:List G) (a:List Nat) (i:Nat),i∈G.idl l a↔i∈G.idl l []∨i∈a
 |[],a,i=>by simp[G.idl]
 |g::r,a,i=>by
  rw[G.idl,G.idl,Zc0 g (G.idl r a) i,Zc0 g (G.idl r []) i,v'F r a i,or_assoc]
theorem ZhH: ∀(l:List (List G)) (a:List Nat) (i:Nat),i∈G.idr l a↔i∈G.idr l []∨i∈a
 |[],a,i=>by simp[G.idr]
 |g::r,a,i=>by
  rw[G.idr,G.idr,v'F g (G.idr r a) i,v'F g (G.idr r []) i,ZhH r a i,or_assoc]
end
mutual
theorem Zec (σ τ:Nm): ∀(g:G) (a:List Nat),(∀i,i∈G.ids g a→σ i=τ i)→(∀i,i∈a→σ i=τ i)∧g.d σ=g.d τ∧g.v σ=g.v τ
 | .int k n,a,h=>⟨h,rfl,rfl⟩
 | .bool b,a,h=>⟨h,rfl,rfl⟩
 | .str l,a,h=>⟨h,rfl,rfl⟩
 | .ptr b o,a,h=>⟨fun i hi=>h i (z'n _ hi),by simp only[G.d,h b (z'k ..)],by simp only[G.v,h b (z'k ..)]⟩
 | .val v,a,h=>⟨h,rfl,rfl⟩
 | .sl f e rows,a,h=>by
  obtain⟨h1,h2⟩:=ZjG σ τ rows a h
  exact⟨h1,by simp only[G.d,h2],rfl⟩
 | .pt l,a,h=>by
  obtain⟨h1,h2,_⟩:=Zay σ τ l a h
  exact⟨h1,by simp only[G.d,h2],rfl⟩
 | .own b n,a,h=>⟨fun i hi=>h i (z'n _ hi),by simp only[G.d,h b (z'k ..)],rfl⟩
 | .nils,a,h=>⟨h,rfl,rfl⟩
 | .off b o n c,a,h=>⟨fun i hi=>h i (z'n _ hi),by simp only[G.d,h b (z'k ..)],rfl⟩
 | .agg l,a,h=>by
  obtain⟨h1,h2,_⟩:=Zay σ τ l a h
  exact⟨h1,by simp only[G.d,h2],rfl⟩
 | .tup l,a,h=>by
  obtain⟨h1,h2,_⟩:=Zay σ τ l a h
  exact⟨h1,by simp only[G.d,h2],rfl⟩
 | .ifc t g,a,h=>by
  obtain⟨h1,h2,_⟩:=Zec σ τ g a h
  exact⟨h1,by simp only[G.d,h2],rfl⟩
 | .fn f cs,a,h=>by
  obtain⟨h1,_,h2⟩:=Zay σ τ cs a h
  exact⟨h1,by simp only[G.d,h2],rfl⟩
 | .mp b,a,h=>⟨fun i hi=>h i (z'n _ hi),by simp only[G.d,h b (z'k ..)],rfl⟩
 | .any,a,h=>⟨h,rfl,rfl⟩
theorem Zay (σ τ:Nm): ∀(l:List G) (a:List Nat),(∀i,i∈G.idl l a→σ i=τ i)→(∀i,i∈a→σ i=τ i)∧G.dl σ l=G.dl τ l∧l.map (G.v σ)=l.map (G.v τ)
 |[],a,h=>⟨h,rfl,rfl⟩
 |g::r,a,h=>by
  obtain⟨h1,h2,h3⟩:=Zec σ τ g _ h
  obtain⟨h4,h5,h6⟩:=Zay σ τ r _ h1
  exact⟨h4,by rw[G.dl,G.dl,h2,h5],by rw[z'g,z'g,h3,h6]⟩
theorem ZjG (σ τ:Nm): ∀(l:List (List G)) (a:List Nat),(∀i,i∈G.idr l a→σ i=τ i)→(∀i,i∈a→σ i=τ i)∧G.dr σ l=G.dr τ l
 |[],a,h=>⟨h,rfl⟩
 |g::r,a,h=>by
  obtain⟨h1,h2,_⟩:=Zay σ τ g _ h
  obtain⟨h3,h4⟩:=ZjG σ τ r _ h1
  exact⟨h3,by rw[G.dr,G.dr,h2,h4]⟩
end
def gNo (g:G):Bool:=match G.ids g []with|[]=>true|_::_=>false
theorem x'a {g:G} (h:gNo g=true) (σ τ:Nm):g.d σ=g.d τ:=by
 unfold gNo at h
 split at h
 ·rename_i e;exact(Zec σ τ g [] fun i hi=>by rw[e]at hi;cases hi).2.1
 ·cases h
def ltI (nx:Nat) (l:List Nat):Bool:=l.all fun i=>Nat.blt i nx
def ltG (nx:Nat) (g:G):Bool:=ltI nx (G.ids g [])
theorem ZgE {nx:Nat} {l:List Nat} (h:ltI nx l=true): ∀i,i∈l→i<nx:=fun i hi=>Nat.blt_eq.mp (z'h.1 h i hi)
theorem ZjL {nx:Nat} {g:G} (h:ltG nx g=true) {σ τ:Nm} (k: ∀i,i<nx→σ i=τ i):g.d σ=g.d τ:=(Zec σ τ g [] fun i hi=>k i (ZgE h i hi)).2.1
theorem ZmY {nx:Nat} {l:List G} (h:ltI nx (G.idl l [])=true) {σ τ:Nm} (k: ∀i,i<nx→σ i=τ i):l.map (G.d σ)=l.map (G.d τ):=by
 have:=(Zay σ τ l [] fun i hi=>k i (ZgE h i hi)).2.1
 rwa [G.dl_eq,G.dl_eq]at this
def Zc5 (nx:Nat) (σ τ:Nm):Nm:=fun i=>bif Nat.blt i nx then τ i else σ i
theorem ZgG {nx:Nat} {σ τ:Nm} {i:Nat} (h:i<nx):Zc5 nx σ τ i=τ i:=by simp only[Zc5,show Nat.blt i nx=true from Nat.blt_eq.mpr h,cond_true]
theorem ZkM {nx:Nat} {σ τ:Nm} {i:Nat} (h: ¬i<nx):Zc5 nx σ τ i=σ i:=by
 have:Nat.blt i nx=false:=by rw[←Bool.not_eq_true];exact fun e=>h (Nat.blt_eq.mp e)
 simp only[Zc5,this,cond_false]
theorem ZkL {lo:Nat→Prop} {nx nx':Nat} {σ τ:Nm} (k: ∀i,lo i→i<nx→σ i=τ i): ∀i,lo i→i<nx'→σ i=Zc5 nx σ τ i:=fun i hl _=>by
 by_cases h:i<nx
 ·rw[ZgG h];exact k i hl h
 ·rw[ZkM h]
theorem Bel.lt {lo:Nat→Prop} {nx nx':Nat} {g:G} (h:Bel lo nx' g) (k:ltG nx g=true):Bel lo nx g:=fun σ τ q=>(h σ (Zc5 nx σ τ) (ZkL q)).trans (ZjL k fun i hi=>ZgG hi)
theorem Zl9 {g:G}: ∀{l:List G} {a:List Nat},g∈l→ ∀i,i∈G.ids g []→i∈G.idl l a:=by
 have app:(∀(g:G) (a:List Nat) (i:Nat),i∈G.ids g a↔i∈G.ids g []∨i∈a):=fun g a i=>Zc0 g a i
 intro l
 induction l with
 |nil=>intro a h;cases h
 |cons x r ih=>
  intro a h i hi
  rcases z'p.1 h with rfl|h
  ·exact(app _ _ i).2 (.inl hi)
  ·exact(app _ _ i).2 (.inr (ih h i hi))
def Zgl:G→Bool
 | .int .. | .bool _| .str _| .val _=>true
 | .tup l=>l.all fun g=>match g with| .int .. | .bool _| .str _| .val _=>true|_=>false
 |_=>false
theorem Zfa {g:G} (h:Zgl g=true) (σ:Nm):Zeg (g.d σ)=true:=by
 cases g<;>first|rfl|(cases h;done)|skip
 rename_i l
 simp only[G.d,Zeg,G.dl_eq,List.all_map,z'h]
 intro x hx
 have:=z'h.1 h x hx
 cases x<;>first|rfl|cases this
def ZkJ:G→Bool
 | .own .. | .off .. | .ptr .. =>true
 | .agg l=>l.any fun g=>match g with| .own .. | .off .. | .ptr .. =>true|_=>false
 |_=>false
theorem Zm7 {H X:Heap} (h:(H++X).blocks.Nodup): ∀b,b∈H.blocks→b∉X.blocks:=by
 rw[Heap.blocks,z'y]at h
 obtain⟨_,_,h3⟩:=z'6.1 h
 exact fun b h1 h2=>h3 b h1 b h2 rfl
theorem OpS.freezeP {P:Program} {o:Oper} {E:Operand→D} {H:Heap} {Φ Ψ:D→Heap→Prop} (h:OpS P o E H Φ) (hf: ∀d G,Φ d G→G.blocks.Nodup→ ∃d' Hk G2,Ψ d' G2∧Fz Hk d' d∧(∀b c,(b,c)∈Hk→(b,c)∈G∧b∉G2.blocks)∧G2.Sublist G):OpS P o E H Ψ:=by
 intro w L0 ε hi hx
 refine(h w L0 ε hi hx).mono fun v w' ⟨d,G',h1,h2,h3,h4⟩=>?_
 obtain⟨d',Hk,G2,k1,hz,k2,hs⟩:=hf d G' h1 h3.nodup
 refine⟨d',G2,k1,?_,SubH.inv hs h3,SubH.evo hs h4⟩
 refine Rel.fz (H1:=Hk) (L:=live G2 L0) ⟨h3,fun b c hm=>⟨(k2 b c hm).1,fun hl=>?_⟩,fun b _ hl=>hl.imp id (SubH.blocks hs b)⟩ d' d v hz h2
 rcases hl with hl|hl
 ·exact h3.apart b (z'o.2 ⟨(b,c),(k2 b c hm).1,rfl⟩) hl
 ·exact(k2 b c hm).2 hl
theorem OpS.freezeN {P:Program} {o:Oper} {E:Operand→D} {H:Heap} {Φ:D→Heap→Prop} {d':D} (h:OpS P o E H Φ) (hf: ∀d H',Φ d H'→H'.blocks.Nodup→ ∃Hk,H'=Hk++H∧Fz Hk d' d):OpS P o E H (fun d'' H''=>d''=d'∧H''=H):=by
 refine h.freezeP fun d G hΦ hn=>?_
 obtain⟨Hk,rfl,hz⟩:=hf d G hΦ hn
 refine⟨d',Hk,H,⟨rfl,rfl⟩,hz,fun b c hm=>⟨z'5 _ hm,fun hl=>?_⟩,List.sublist_append_right _ _⟩
 exact Zm7 hn b (z'o.2 ⟨(b,c),hm,rfl⟩) hl
theorem Op1.opS {P:Program} {o:Oper} {E:Operand→D} {H:Heap} {K:D→Heap→Prop} (h:Op1 P o E H K):OpS P o E H K:=let ⟨_,h1,h2⟩:=h;h1.mono h2
def Zoo:G→Bool
 | .agg _=>true
 | .tup l=>l.any fun g=>match g with| .agg _=>true|_=>false
 |_=>false
noncomputable def Ziu (b:Bool) (g:G) (V:Vh) (nx:Nat):Option (G×Vh×Nat):=match b with
 |false=>some (g,V,nx)
 |true=>
  let ids:=Zaw V 0 1000 (G.ids g []) []
  ZeZ V (fun i=>v'n i ids) fun Vd=>match gFz Vd 8 g with
   |some g'=>match gNo g' with
    |true=>ZeZ V (fun i=> !v'n i ids) fun V2=>gPl g' fun g'=>some (g',V2,nx)
    |false=>some (g,V,nx)
   |none=>some (g,V,nx)
theorem Zhy {P:Program} {b:Bool} {o:Oper} {lo:Nat→Prop} {nx nx1 nx':Nat} {env:Env} {V V1 V':Vh} {g g':G} (h:Ziu b g V1 nx1=some (g',V',nx')) (hm:x'd P o lo env V nx g V1 nx1):x'd P o lo env V nx g' V' nx':=by
 unfold Ziu at h
 split at h
 ·cases h;exact hm
 ·simp only[Zda]at h
  split at h
  ·rename_i g2 hz
   split at h
   ·rename_i hno
    rw[Zco]at h
    cases h
    obtain⟨⟨h1,h2,h3⟩,h4⟩:=hm
    refine⟨⟨h1,h2.filter _,fun σ τ _=>x'a hno σ τ⟩,fun σ K hn hk=>?_⟩
    have h5:=Op1.opS (h4 σ (fun d H'=> ∃σ':Nm,(∀i,i<nx→σ' i=σ i)∧d=g.d σ'∧H'=Vn σ' V1) hn fun σ' hag=>⟨σ',hag,rfl,rfl⟩)
    refine⟨fun d H'=> ∃σ':Nm,(∀i,i<nx→σ' i=σ i)∧d=g'.d σ'∧H'=Vn σ' (V1.filter fun p=> !v'n p.1 (Zaw V1 0 1000 (G.ids g []) [])),h5.freezeP ?_,?_⟩
    ·rintro d G ⟨σ',hag,rfl,rfl⟩ hnd
     refine⟨_,Vn σ' (V1.filter fun p=>v'n p.1 (Zaw V1 0 1000 (G.ids g []) [])),_,⟨σ',hag,rfl,rfl⟩,v'g (List.Nodup.sublist ((v'O σ' V1 _).map _) hnd) 8 _ _ hz,fun b c hb=>⟨(v'O σ' V1 _).subset hb,fun hb2=>?_⟩,v'O σ' V1 _⟩
     obtain⟨p,hp,hpe⟩:=z'o.1 hb
     obtain⟨q,hq,hqe⟩:=z'o.1 hb2
     obtain⟨r,hr,rfl⟩:=z'o.1 hq
     have hp':=y'W.1 hp
     have hr':=y'W.1 hr
     have e1:(σ' p.1).1=b:=congrArg Prod.fst hpe
     have e2:(σ' r.1).1=b:=hqe
     rw[x'Z]at hnd
     have:p.1=r.1:=by
      obtain⟨i,hi,hpi⟩:=List.getElem_of_mem hp'.1
      obtain⟨j,hj,hrj⟩:=List.getElem_of_mem hr'.1
      have:=(List.getElem_inj (h₀:=by simpa using hi) (h₁:=by simpa using hj) hnd).1 (by simp only[List.getElem_map,hpi,hrj];rw[e1,e2])
      subst this
      rw[hpi]at hrj
      rw[hrj]
     rw[this]at hp'
     have a1:=hp'.2
     have a2:=hr'.2
     simp only[x'j]at a2
     rw[a1]at a2;cases a2
    ·rintro d H' ⟨σ',hag,rfl,rfl⟩;exact hk σ' hag
   ·cases h;exact hm
  ·cases h;exact hm
theorem Bel.fn_l {lo:Nat→Prop} {hi:Nat} {f:FuncId} {cs:List G} (h:Bel lo hi (.fn f cs)) (hv:cs.all G.isV=true):BelL lo hi cs:=fun g hg σ τ k=>by
 have:=h σ τ k
 simp only[G.d,D.is.injEq,Value.func.injEq,true_and]at this
 have h1:cs.map (G.v σ)=cs.map (G.v τ):=List.toArray_inj this
 have h2:=z'h.1 hv g hg
 rw[G.isV_d h2,G.isV_d h2,x'P h1 g hg]
theorem Op1.lendOE {P:Program} {o:Oper} {E E':Operand→D} {H:Heap} {d0:D} {K:D→Heap→Prop} (h:OpS P o E' [] (fun d H'=>d=d0∧H'=[])) (ha: ∀x,x∈o.op.operands→Fz H (E' x) (E x)) (hp:Zeg d0=true) (hk:K d0 H):Op1 P o E H K:=by
 refine⟨fun d H'=>d=d0∧H'=H,?_,fun d H' ⟨h1,h2⟩=>h1▸h2▸hk⟩
 intro w L0 ε hi hx
 have hlet:Zcd w L0 H H (live [] L0):=⟨hi,fun b c hm=>⟨hm,fun hl=>by
  rcases hl with hl|hl
  ·exact hi.apart b (z'o.2 ⟨_,hm,rfl⟩) hl
  ·cases hl⟩,fun b _ hl=>by
  rcases hl with hl|hl
  ·exact .inl hl
  ·cases hl⟩
 have hi0:HInv w L0 []:=⟨fun b c hm=>(by cases hm),w'l,fun b hb=>(by cases hb),hi.old⟩
 have hg:=h w L0 ε hi0 (fun x hm=>Rel.fz hlet _ _ _ (ha x hm) (hx x hm))
 have key: ∀v w',(∃d Hp,(d=d0∧Hp=[])∧Rel w' (live Hp L0) d v∧HInv w' L0 Hp∧Evo w [] w' Hp)→ ∃d H',(d=d0∧H'=H)∧Rel w' (live H' L0) d v∧HInv w' L0 H'∧Evo w H w' H':=by
  rintro v w' ⟨d,Hp,⟨rfl,rfl⟩,hrel,hi',he⟩
  have hblk: ∀b,b<w.heap.size→w'.heap[b]?=w.heap[b]?:=fun b hb=>he.block b hb (by simp[Heap.blocks])
  have hlt: ∀b,b∈H.blocks→b<w.heap.size:=fun b hb=>hi.lt hb
  have hkeep:Keeps w (live H L0) w' (live H L0):=fun b hb hn=>⟨hblk b hb,hn⟩
  exact⟨d,H,⟨rfl,rfl⟩,Rel.plain hp hrel,⟨fun b c hm=>(hi.rel b c hm).mono hkeep (hblk b (hlt b (z'o.2 ⟨_,hm,rfl⟩))),hi.nodup,hi.apart,hi'.old⟩,
   ⟨he.os,he.tape,he.output,he.size,fun b hb _=>hblk b hb,fun b hb=> .inl hb⟩⟩
 exact hg.mono key
noncomputable def ZdZ {P:Program} (T:Tab P) (gx:G) (V:Vh) (t u:TypeId):Option G:=match gFz V 8 gx with
 |some g'=>match ZcS (kdElem T.get (kdT (T.get t))) (kdT (T.get t)) (kdT (T.get u)) g' with
  |some g=>match Zgl g&&gNo g with|true=>some g|false=>none
  |none=>none
 |none=>none
theorem Ze7 {P:Program} (T:Tab P) {o:Oper} {env:Env} {V:Vh} {t u:TypeId} {x:Operand} {gx g:G} (ho:o.op= .convert t u x) (hx:gX env x=some gx) (h:ZdZ T gx V t u=some g):(∀{lo:Nat→Prop} {hi:Nat},Bel lo hi g)∧
  ∀(σ:Nm) (K:D→Heap→Prop),(Vn σ V).blocks.Nodup→K (g.d σ) (Vn σ V)→Op1 P o (evD (cE σ env)) (Vn σ V) K:=by
 unfold ZdZ at h
 split at h
 ·rename_i g' hz
  split at h
  ·rename_i g1 hc
   split at h
   ·rename_i hp
    cases h
    rw[z'b]at hp
    refine⟨fun σ τ _=>x'a hp.2 σ τ,fun σ K hn hk=>?_⟩
    refine Op1.lendOE (E':=fun _=>g'.d σ) (d0:=g.d σ) (Op1.opS (ZeW T ho (Zf5 hc ⟨rfl,rfl⟩))) (fun y hy=>?_) (Zfa hp.1 σ) hk
    have:y=x:=by simpa[ho,Op.operands]using hy
    subst this
    rw[z'u hx]
    exact v'g hn 8 _ _ hz
   ·cases h
  ·cases h
 ·cases h
def Znb:G→Bool
 | .own .. | .off .. =>true
 |_=>false
noncomputable def Ziy {P:Program} (T:Tab P) (w:Gw) (env:Env) (nx:Nat) (x:Operand) (name:String) (axs:Array Operand):Option (FuncId×G×Vh×Nat):=match gX env x,gXs env axs.toList with
 |some (.ifc t g),some args=>match ZfF P t name with
  |some f=>match ZaS T w f (g::args) [] nx with|some (g',V1,nx1)=>some (f,g',V1,nx1)|none=>none
  |none=>none
 |_,_=>none
theorem Bel.ifc_g {lo:Nat→Prop} {hi:Nat} {t:TypeId} {g:G} (h:Bel lo hi (.ifc t g)):Bel lo hi g:=fun σ τ k=>by
 have:=h σ τ k
 simp only[G.d,D.ifc.injEq,true_and]at this
 exact this
theorem ZhA {P:Program} (T:Tab P) (hN:NamesOk P) {w:Gw} (hw:x'w P w) {o:Oper} {lo:Nat→Prop} {nx nx1:Nat} {env:Env} {x:Operand} {name:String} {axs:Array Operand} {ts:Array TypeId} {f:FuncId} {g:G} {V1:Vh} (ho:o.op= .call ⟨.invoke x name,axs,ts⟩) (hlo: ∀i,nx≤i→lo i) (he:BelE lo nx env)
  (h:Ziy T w env nx x name axs=some (f,g,V1,nx1)):(nx≤nx1∧VOk lo nx1 V1∧Bel lo nx1 g)∧ ∀(σ:Nm) (H:Heap) (K:D→Heap→Prop),(∀τ:Nm,(∀i,i<nx→τ i=σ i)→K (g.d τ) (Vn τ V1++H))→Op1 P o (evD (cE σ env)) H K:=by
 unfold Ziy at h
 split at h
 ·rename_i t g0 args hx has
  split at h
  ·rename_i f' hm
   split at h
   ·rename_i g' V' nx' hc
    cases h
    have hb:BelL lo nx (g0::args):=fun y hy=>by
     rcases z'p.1 hy with rfl|hy
     ·exact(y'q hx he).ifc_g
     ·exact Zam he has y hy
    obtain⟨h1,h2⟩:=w'2 T hN hw hc hlo hb (fun b c hm=>by cases hm)
    refine⟨h1,fun σ H K hk=>?_⟩
    refine Op1.invoke (t:=t) (dv:=g0.d σ) ho (z'u hx σ) hm (h2 σ) (by rw[v'k σ has];rfl) ?_
    rintro d H' ⟨σ',hag,rfl,rfl⟩
    exact hk σ' hag
   ·cases h
  ·cases h
 ·cases h
theorem ZjK {P:Program} {f:FuncId} {args args':List D} {Hp:Heap} {d0:D} (h:Fun P f args [] false (fun d H'=>d=d0∧H'=[])) (ha:FzL Hp args args'):
  Fun P f args' Hp false (fun d H'=>d=d0∧H'=[]):=by
 refine⟨h.1,fun w L0 vs hi hr=>?_⟩
 have hlet:Zcd w L0 Hp Hp (live [] L0):=⟨hi,fun b c hm=>⟨hm,fun hl=>by
  rcases hl with hl|hl
  ·exact hi.apart b (z'o.2 ⟨_,hm,rfl⟩) hl
  ·cases hl⟩,fun b _ hl=>by
  rcases hl with hl|hl
  ·exact .inl hl
  ·cases hl⟩
 have hi0:HInv w L0 []:=⟨fun b c hm=>(by cases hm),w'l,fun b hb=>(by cases hb),hi.old⟩
 refine(h.2 w L0 vs hi0 (RelL.fz hlet _ _ _ ha hr)).mono ?_
 rintro e w' ⟨v,rfl,d,H',⟨rfl,rfl⟩,h3,h4,h5⟩
 refine⟨v,rfl,d,[],⟨rfl,rfl⟩,?_,h4,⟨h5.os,h5.tape,h5.output,h5.size,fun b hb _=>h5.block b hb (by simp[Heap.blocks]),fun b hb=>by simp[Heap.blocks]at hb⟩⟩
 refine Rel.mono (Keeps.less fun b _ hl=>?_) _ _ h3
 rcases hl with(hl|hl)|hl
 ·exact .inl (.inl hl)
 ·cases hl.1
 ·simp[Heap.blocks]at hl
def Zn0:G→Option Nat
 | .own b _=>some b
 | .off b _ _ _=>some b
 |_=>none
noncomputable def Ziv (w:Gw) (f:Nat) (args:List G) (V:Vh):Option (G×Vh):=match args.filterMap Zn0 with
 |[]=>none
 |b::bs=>match w'L (gFz (V.filter fun p=>v'n p.1 (b::bs)) 8) args with
  |some args'=>match w.tab f args' with
   |some g=>some (g,V.filter fun p=> !v'n p.1 (b::bs))
   |none=>none
  |none=>none
noncomputable def Zjr {P:Program} (T:Tab P) (ow:Nat→G→Bool) (w:Gw) (f:Nat) (args:List G) (V:Vh) (nx:Nat):Option (G×Vh×Nat):=match (match ow f .any with|true=>Ziv w f args V|false=>none)with
 |some (g,V2)=>some (g,V2,nx)
 |none=>match ZaS T w f args V nx with
  |some (g,V1,nx1)=>Ziu (ow f g) g V1 nx1
  |none=>none
theorem Zkp {P:Program} {w:Gw} (hw:x'w P w) {lo:Nat→Prop} {nx f:Nat} {args:List G} {V V2:Vh} {g:G} (h:Ziv w f args V=some (g,V2)) (hV:VOk lo nx V):
  VOk lo nx V2∧(∀σ τ:Nm,g.d σ=g.d τ)∧ ∀σ:Nm,(Vn σ V).blocks.Nodup→ ∃Hp:Heap,(Vn σ V).Perm (Hp++Vn σ V2)∧Fun P f (args.map (G.d σ)) Hp false (fun d H'=>d=g.d σ∧H'=[]):=by
 unfold Ziv at h
 split at h
 ·cases h
 rename_i b bs hbs
 split at h
 ·rename_i args' hfz
  split at h
  ·rename_i g' ht
   cases h
   obtain⟨q1,q2⟩:=hw.1 _ _ _ ht
   refine⟨hV.filter _,q1,fun σ hn=>⟨Vn σ (V.filter fun p=>v'n p.1 (b::bs)),?_,?_⟩⟩
   ·have hp:V.Perm ((V.filter fun p=>v'n p.1 (b::bs))++V.filter fun p=> !v'n p.1 (b::bs)):=(List.filter_append_perm _ V).symm
    have:=hp.map fun p:Nat×VB=>((σ p.1).1,p.2.c σ p.1)
    rwa [z'y]at this
   ·have hn1:(Vn σ (V.filter fun p=>v'n p.1 (b::bs))).blocks.Nodup:=List.Nodup.sublist ((v'O σ V _).map _) hn
    exact ZjK (q2 σ) (Zau (v'g hn1 8) hfz)
  ·cases h
 ·cases h
noncomputable def Zgk {P:Program} (T:Tab P) (ow:Nat→G→Bool) (w:Gw) (env:Env) (V:Vh) (nx:Nat) (op:Op):Option (G×Vh×Nat):=match op with
 | .call ⟨.value xf,axs,ts⟩=>match gX env xf,gXs env axs.toList with
  |some (.fn f cs),some args=>match cs.all G.isV with
   |true=>match w.tab f (args++cs)with
    |some g=>some (g,V,nx)
    |none=>Zjr T ow w f (args++cs) V nx
   |false=>none
  |_,_=>none
 | .call ⟨.invoke x name,axs,_⟩=>match Ziy T w env nx x name axs with
  |some (f,g,V1,nx1)=>Ziu (ow f g) g (V1++V) nx1
  |none=>none
 | .convert t u x=>match gX env x with
  |some gx=>match Znb gx with
   |true=>match ZdZ T gx V t u with|some g=>some (g,V,nx)|none=>none
   |false=>gOp T env V nx (.convert t u x)
  |none=>none
 |op=>gOp T env V nx op
theorem v'y {σ:Nm} {cs:List G} (hv:cs.all G.isV=true):(cs.map (G.v σ)).toArray.toList.map D.is=cs.map (G.d σ):=by
 rw[List.toList_toArray,List.map_map]
 exact z'R fun g hg=>(G.isV_d (z'h.1 hv g hg)).symm
theorem ZhD {P:Program} {ow:Nat→G→Bool} (T:Tab P) (hN:NamesOk P) {w:Gw} (hw:x'w P w) {o:Oper} {lo:Nat→Prop} {nx nx':Nat} {env:Env} {V V':Vh} {g:G} (hlo: ∀i,nx≤i→lo i) (hV:VOk lo nx V) (he:BelE lo nx env)
  (h:Zgk T ow w env V nx o.op=some (g,V',nx')):x'd P o lo env V nx g V' nx':=by
 unfold Zgk at h
 split at h
 ·rename_i xf axs ts ho
  split at h
  ·rename_i f cs args hf has
   split at h
   ·rename_i hv
    have hbf:=(y'q hf he).fn_l hv
    split at h
    ·rename_i g1 ht
     cases h
     obtain⟨q1,q2⟩:=hw.1 _ _ _ ht
     refine⟨⟨z'c _,hV,fun σ τ _=>q1 σ τ⟩,fun σ K hn hk=>?_⟩
     refine Op1.callG (Hp:=[]) (Hr:=Vn σ V) ho (z'u hf σ) ?_ (q2 σ) (y'f _) ?_
     ·rw[v'y hv,v'k σ has,z'y]
     ·rintro d H' ⟨rfl,rfl⟩
      exact hk σ fun _ _=>rfl
    unfold Zjr at h
    split at h
    ·rename_i g1 V2 hq
     cases h
     split at hq
     case h_2=>cases hq
     obtain⟨b1,b2,b3⟩:=Zkp hw hq hV
     refine⟨⟨z'c _,b1,fun σ τ _=>b2 σ τ⟩,fun σ K hn hk=>?_⟩
     obtain⟨Hp,hp,hF⟩:=b3 σ hn
     refine Op1.callG (Hp:=Hp) (Hr:=Vn σ V') ho (z'u hf σ) ?_ hF hp ?_
     ·rw[v'y hv,v'k σ has,z'y]
     ·rintro d H' ⟨rfl,rfl⟩
      exact hk σ fun _ _=>rfl
    split at h
    case h_2=>cases h
    rename_i g1 V1 nx1 hcall
    refine Zhy h ?_
    obtain⟨h1,h2⟩:=w'2 T hN hw hcall hlo (BelL.app (Zam he has) hbf) hV
    refine⟨h1,fun σ K hn hk=>?_⟩
    refine Op1.callG (Hp:=Vn σ V) (Hr:=[]) ho (z'u hf σ) ?_ (h2 σ) (by rw[z'x]) ?_
    ·rw[v'y hv,v'k σ has,z'y]
    ·rintro d H' ⟨σ',hag,rfl,rfl⟩
     rw[z'x];exact hk σ' hag
   ·cases h
  ·cases h
 ·rename_i x name axs ts ho
  split at h
  ·rename_i fi g1 V1 nx1 hi
   refine Zhy h ?_
   obtain⟨⟨a1,a2,a3⟩,a4⟩:=ZhA T hN hw ho hlo he hi
   refine⟨⟨a1,fun b c hm=>?_,a3⟩,fun σ K hn hk=>a4 σ _ K fun τ hag=>?_⟩
   ·rcases y'j.1 hm with hm|hm
    ·exact a2 b c hm
    ·exact hV.mono a1 b c hm
   ·have:=hk τ hag
    rw[ZfL,x'3 hV (τ:=σ) fun i _ hi=>hag i hi]at this
    exact this
  ·cases h
 ·rename_i t u x ho
  split at h
  ·rename_i gx hx
   split at h
   ·split at h
    ·rename_i g1 hg
     cases h
     obtain⟨q1,q2⟩:=Ze7 T ho hx hg
     exact⟨⟨z'c _,hV,q1⟩,fun σ K hn hk=>q2 σ K hn (hk σ fun _ _=>rfl)⟩
    ·cases h
   ·rw[←ho]at h;exact Zjx T hlo hV he h
  ·cases h
 ·exact Zjx T hlo hV he h
inductive DO where
 |v (f:Env→Option G)
 |m (f:Env→Vh→Nat→Option (G×Vh×Nat))
 |w
noncomputable def Zop {P:Program} (T:Tab P):Op→DO
 | .move x=> .v fun env=>gX env x
 | .assign x=> .v fun env=>gX env x
 | .pick c a b=> .v fun env=>ZcX T env c a b
 | .binOp op t x y _=> .v fun env=>ZbS T env op t x y
 | .unOp op _ x=> .v fun env=>ZcY T env op x
 | .fieldAddr t x f=> .v fun env=>v'i T env t x f
 | .field t x f=> .v fun env=>ZbV T env t x f
 | .indexAddr t x i=> .v fun env=>v'j T env t x i
 | .index t x i=> .v fun env=>ZbW T env t x i
 | .extract x i=> .v fun env=>Zad T env x i
 | .nilCheck x=> .v fun env=>v'K T env x
 | .build t ps=> .v fun env=>ZbT T env t ps
 | .buildSlice t n ps=> .v fun env=>w'X T env t n ps
 | .slice t x lo hi mx=> .v fun env=>ZbX T env t x lo hi mx
 | .makeInterface t x=> .v fun env=>x'5 T env t x
 | .makeFunc fn first cs=> .v fun env=>v'J T env fn first cs
 | .load t x=> .m fun env V nx=>match gX env x with
  |some a=>match ZbI (T.get t) a V with|some g=>some (g,V,nx)|none=>none
  |none=>none
 | .store t a x=> .m fun env V nx=>match gX env a,gX env x with
  |some a,some x=>Zd9 (T.get t).known (T.get t).size a x V nx
  |_,_=>none
 |_=> .w
noncomputable def Zlj {P:Program} (T:Tab P) (ow:Nat→G→Bool) (w:Gw) (env:Env) (V:Vh) (nx:Nat) (op:Op):Option (G×Vh×Nat):=match Zop T op with
 | .v f=>match f env with|some g=>some (g,V,nx)|none=>none
 | .m f=>f env V nx
 | .w=>Zgk T ow w env V nx op
theorem Zky {P:Program} (T:Tab P) (ow:Nat→G→Bool) (w:Gw) (env:Env) (V:Vh) (nx:Nat) (op:Op):Zlj T ow w env V nx op=Zgk T ow w env V nx op:=by
 cases op<;>rfl
noncomputable def Zav {R:Type} (n:Nat) (dst:Option Tmp) (g:G) (env:Env) (k:Env→Option R):Option R:=match dst with
 |none=>k env
 |some t=>match Nat.blt t n with|true=>gPl g fun g=>Zet env t g k|false=>none
theorem ZfU (σ:Nm) {n:Nat} {env:Env} {t:Nat} (g:G) (hl:ELen n env) (h:t<n):cE σ (v'x env t g)=upd (cE σ env) t (g.d σ):=by
 funext k
 simp only[cE,upd,Zhr hl h]
 by_cases e:t=k
 ·subst e;simp
 ·have:(t == k)=false:=by simpa using e
  rw[if_neg e,this,cond_false]
def ZiW (env:Env) (dst:Option Tmp) (g:G):Env:=match dst with|none=>env|some t=>v'x env t g
theorem w'G {R:Type} {n:Nat} {dst:Option Tmp} {g:G} {env:Env} {k:Env→Option R} {r:R} (h:Zav n dst g env k=some r):(∀t,dst=some t→t<n)∧k (ZiW env dst g)=some r:=by
 unfold Zav at h
 split at h
 ·exact⟨fun t ht=>(by cases ht),h⟩
 ·split at h
  ·rename_i t hb
   rw[Zco,ZcO]at h
   exact⟨fun t' ht=>(by cases ht;exact z'i hb),h⟩
  ·cases h
theorem w'V {σ:Nm} {n:Nat} {dst:Option Tmp} {g:G} {env:Env} (hd: ∀t,dst=some t→t<n) (hl:ELen n env):cE σ (ZiW env dst g)=updO (cE σ env) dst (g.d σ):=by
 cases dst with
 |none=>rfl
 |some t=>exact ZfU σ g hl (hd t rfl)
theorem w'a {n:Nat} {dst:Option Tmp} {g:G} {env:Env} (h:ELen n env):ELen n (ZiW env dst g):=by
 cases dst with
 |none=>exact h
 |some t=>exact Zar h t g
theorem x'9 {lo:Nat→Prop} {hi:Nat} {dst:Option Tmp} {g:G} {env:Env} (he:BelE lo hi env) (hg:Bel lo hi g):BelE lo hi (ZiW env dst g):=by
 cases dst with
 |none=>exact he
 |some t=>exact Zbz he t hg
noncomputable def Zd8 {P:Program} (T:Tab P) (ow:Nat→G→Bool) (w:Gw) (n:Nat) (o:Oper) (s:Gs):Option Gs:=match Zlj T ow w s.env s.V s.nx o.op with
 |some (g,V,nx)=>Zav n o.dst g s.env fun env=>some ⟨env,V,nx⟩
 |none=>none
noncomputable def Zlk (n:Nat) (o:Oper) (s:Gs):Option Gs:=Zav n o.dst (.val undef) s.env fun env=>some ⟨env,s.V,s.nx⟩
def ZeS:Value→Bool
 | .tuple vs=>match vs.toList with|[]=>true|_=>false
 |_=>false
theorem ZiL {v:Value} (h:ZeS v=true):v=undef:=by
 unfold ZeS at h
 split at h
 ·rename_i vs
  split at h
  ·rename_i hv
   have:vs= #[]:=by rw[←Array.toList_inj];exact hv
   rw[this];rfl
  ·cases h
 ·cases h
noncomputable def v'V (n:Nat) (ops:Array Oper) (o:Oper) (env:Env):Nat:=match o.guard with
 |none=>1
 |some (j,want)=>match (ops[j]?).bind (·.dst)with
  |some t=>match Nat.blt t n,eAt env t with
   |true,.bool b=>match b,want with|true,true=>1|false,false=>1|_,_=>2
   |true,.val v=>match ZeS v with|true=>2|false=>0
   |_,_=>0
  |none=>0
theorem ZbH {n:Nat} {ops:Array Oper} {o:Oper} {env:Env} (h:v'V n ops o env=1):o.guard=none∨ ∃j want t,o.guard=some (j,want)∧(ops[j]?).bind (·.dst)=some t∧Nat.blt t n=true∧eAt env t= .bool want:=by
 unfold v'V at h
 split at h
 ·rename_i hg;exact .inl hg
 ·rename_i j want hg
  split at h
  ·rename_i t hj
   split at h
   ·rename_i b hbl hat
    refine .inr ⟨j,want,t,hg,hj,hbl,?_⟩
    cases b<;>cases want<;>first|exact hat|cases h
   ·split at h<;>cases h
   ·cases h
  ·cases h
theorem Za7 {n:Nat} {ops:Array Oper} {o:Oper} {env:Env} (h0: ¬v'V n ops o env=0) (h1: ¬v'V n ops o env=1):
  ∃j want t,o.guard=some (j,want)∧(ops[j]?).bind (·.dst)=some t∧Nat.blt t n=true∧(eAt env t= .bool (!want)∨eAt env t= .val undef):=by
 unfold v'V at h0 h1
 split at h0
 ·rename_i hg;rw[hg]at h1;exact absurd rfl h1
 ·rename_i j want hg
  rw[hg]at h1
  simp only at h1
  split at h0
  ·rename_i t hj
   rw[hj]at h1
   simp only at h1
   split at h0
   ·rename_i b hbl hat
    rw[hbl,hat]at h1
    refine⟨j,want,t,hg,hj,hbl,.inl ?_⟩
    cases b<;>cases want<;>first|exact hat|exact absurd rfl h1
   ·rename_i v hbl hat
    split at h0
    ·rename_i hu;exact⟨j,want,t,hg,hj,hbl,.inr (by rw[hat,ZiL hu])⟩
    ·exact absurd rfl h0
   ·exact absurd rfl h0
  ·exact absurd rfl h0
noncomputable def ZiD {P:Program} (T:Tab P) (ow:Nat→G→Bool) (w:Gw) (n:Nat) (ops:Array Oper):List Oper→Gs→Option Gs
 |[],s=>some s
 |o::r,s=>match (match v'V n ops o s.env with|0=>none|1=>Zd8 T ow w n o s|_=>Zlk n o s)with
  |some s'=>ZiD T ow w n ops r s'
  |none=>none
theorem VCo.nodup' {P:Program} {n:Nat} {ops:Array Oper} {l:List Oper} {s:St} {Q:Exit→St→Prop} (h:s.heap.blocks.Nodup→VCo P n ops l s Q):VCo P n ops l s Q:=fun x a w hn hs=>h hs.inv.nodup x a w hn hs
theorem ZfV {n:Nat} {o:Oper} (h: ∀t,o.dst=some t→t<n):y'B n o=true:=by
 unfold y'B
 split
 ·rename_i d hd;exact Nat.ble_eq▸h d hd
 ·rfl
theorem Zdw {P:Program} {ow:Nat→G→Bool} (T:Tab P) (hN:NamesOk P) {w:Gw} (hw:x'w P w) {lo:Nat→Prop} {n:Nat} {o:Oper} {s s':Gs} (h:Zd8 T ow w n o s=some s') (hs:GOk lo n s):(s.nx≤s'.nx∧GOk lo n s')∧y'B n o=true∧
  ∀(σ:Nm) (K:St→Prop),(Vn σ s.V).blocks.Nodup→(∀σ':Nm,(∀i,i<s.nx→σ' i=σ i)→K (s'.st σ'))→Op1 P o (evD (cE σ s.env)) (Vn σ s.V) (fun d H=>K (St.put (s.st σ) o.dst d H)):=by
 unfold Zd8 at h
 rw[Zky]at h
 split at h
 ·rename_i g V nx hg
  obtain⟨hd,h⟩:=w'G h
  cases h
  obtain⟨⟨h1,h2,h3⟩,h4⟩:=ZhD T hN hw hs.up hs.V hs.env hg
  refine⟨⟨h1,⟨w'a hs.len,fun i hi=>hs.up i (z'E h1 hi),x'9 (hs.env.mono h1) h3,h2⟩⟩,ZfV hd,fun σ K hn hk=>h4 σ _ hn fun σ' hag=>?_⟩
  have:=hk σ' hag
  simp only[Gs.st,w'V hd hs.len]at this
  rw[ZfT hs.env (τ:=σ) fun i _ hi=>hag i hi]at this
  exact this
 ·cases h
theorem ZkC {lo:Nat→Prop} {n:Nat} {o:Oper} {s s':Gs} (h:Zlk n o s=some s') (hs:GOk lo n s):s.nx=s'.nx∧GOk lo n s'∧y'B n o=true∧ ∀σ:Nm,s'.st σ=⟨updO (cE σ s.env) o.dst (.is undef),Vn σ s.V⟩:=by
 obtain⟨hd,h⟩:=w'G h
 cases h
 exact⟨rfl,⟨w'a hs.len,hs.up,x'9 hs.env Bel.val,hs.V⟩,ZfV hd,fun σ=>by simp only[Gs.st,w'V hd hs.len];rfl⟩
theorem ZeE {P:Program} {ow:Nat→G→Bool} (T:Tab P) (hN:NamesOk P) {w:Gw} (hw:x'w P w) {lo:Nat→Prop} {n:Nat} {ops:Array Oper}: ∀{l:List Oper} {s s':Gs},ZiD T ow w n ops l s=some s'→GOk lo n s→
  (s.nx≤s'.nx∧GOk lo n s')∧ ∀(σ:Nm) (Q:Exit→St→Prop),(∀σ':Nm,(∀i,i<s.nx→σ' i=σ i)→Q .normal (s'.st σ'))→VCo P n ops l (s.st σ) Q
 |[],s,s',h,hs=>by
  cases h
  exact⟨⟨z'c _,hs⟩,fun σ Q hq=>VCo.nil (hq σ fun _ _=>rfl)⟩
 |o::r,s,s',h,hs=>by
  unfold ZiD at h
  split at h
  ·rename_i s1 h1
   split at h1
   ·cases h1
   ·rename_i hg
    obtain⟨⟨a1,a2⟩,a3,a4⟩:=Zdw T hN hw h1 hs
    obtain⟨⟨b1,b2⟩,b3⟩:=ZeE T hN hw h a2
    refine⟨⟨z'E a1 b1,b2⟩,fun σ Q hq=>VCo.nodup' fun hn=>?_⟩
    have run: ∀K:St→Prop,(∀s,VCo P n ops r s Q→K s)→Op1 P o (evD (s.st σ).env) (s.st σ).heap (fun d H=>K ((s.st σ).put o.dst d H)):=fun K hK=>
     a4 σ K hn fun σ' hag=>hK _ (b3 σ' Q fun σ'' hag'=>hq σ'' fun i hi=>(hag' i (z'm hi a1)).trans (hag i hi))
    rcases ZbH hg with hgu|⟨j,want,t,hgu,hj,hbl,hat⟩
    ·exact VCo.cons hgu a3 run
    ·have ht:(s.st σ).env t= .is (.bool want):=by show cE σ s.env t=_;rw[Zbv,hat];rfl
     refine VCo.guard hgu hj hbl a3 ht (y'E (fun hb=>?_) (fun hb=>?_))
     ·subst hb
      rw[x'A ht]
      exact VCr.run a3 run
     ·subst hb
      rw[x'A ht]
      exact VCr.run a3 run
   ·rename_i hg0 hg1
    obtain⟨a1,a2,a3,a4⟩:=ZkC h1 hs
    obtain⟨⟨b1,b2⟩,b3⟩:=ZeE T hN hw h a2
    refine⟨⟨a1▸b1,b2⟩,fun σ Q hq=>?_⟩
    have run:VCo P n ops r ⟨updO (cE σ s.env) o.dst (.is undef),Vn σ s.V⟩ Q:=by
     rw[←a4 σ]
     exact b3 σ Q fun σ' hag=>hq σ' fun i hi=>hag i (a1▸hi)
    obtain⟨j,want,t,hgu,hj,hbl,hat⟩:=Za7 hg0 hg1
    rcases hat with hat|hat
    ·have ht:(s.st σ).env t= .is (.bool (!want)):=by show cE σ s.env t=_;rw[Zbv,hat];rfl
     refine VCo.guard hgu hj hbl a3 ht (y'E (fun hb=>?_) (fun hb=>?_))
     ·cases want with
      |true=>cases hb
      |false=>
       rw[show upd (s.st σ).env t (.is (.bool true))=(s.st σ).env from x'A ht]
       exact run
     ·cases want with
      |true=>
       rw[show upd (s.st σ).env t (.is (.bool false))=(s.st σ).env from x'A ht]
       exact run
      |false=>cases hb
    ·have ht:(s.st σ).env t= .is undef:=by show cE σ s.env t=_;rw[Zbv,hat];rfl
     exact VCo.gundef hgu hj hbl a3 ht run
  ·cases h
end Go.Vc
