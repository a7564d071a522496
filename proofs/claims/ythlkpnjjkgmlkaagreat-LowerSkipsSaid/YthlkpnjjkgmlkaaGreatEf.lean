/- Calls at fixed data, reckoned out: calls; operations one behind the other. No condition. -/
import Derived.Test.YthlkpnjjkgmlkaaGreatEe
import Derived.Test.YthlkpnjjkgmlkaaGreatYp
namespace Go.Vc
set_option linter.unusedSimpArgs false
set_option linter.unusedVariables false
open Go
inductive Ge where
 |nm
 |ex (i:Nat)
 |rt
def Ge.x:Ge→Exit
 | .nm=> .normal
 | .ex i=> .exit i
 | .rt=> .ret
structure Gs where
 env:Env
 V:Vh
 nx:Nat
structure Gw where
 tab:Nat→List G→Option G
 run:Nat→Code→Gs→Option (Ge×Gs)
structure GOk (lo:Nat→Prop) (n:Nat) (s:Gs):Prop where
 len:ELen n s.env
 up: ∀i,s.nx≤i→lo i
 env:BelE lo s.nx s.env
 V:VOk lo s.nx s.V
noncomputable abbrev Gs.st (σ:Nm) (s:Gs):St:=⟨cE σ s.env,Vn σ s.V⟩
def TabOk (P:Program) (tab:Nat→List G→Option G):Prop:= ∀(f:Nat) (args:List G) (g:G),tab f args=some g→(∀σ τ:Nm,g.d σ=g.d τ)∧ ∀σ:Nm,Pure P f (args.map (G.d σ)) (g.d σ)
theorem TabOk.none {P:Program}:TabOk P fun _ _=>none:=fun _ _ _ h=>by cases h
def v'n (P:Program) (w:Gw):Prop:=TabOk P w.tab∧ ∀(lo:Nat→Prop) (n:Nat) (c:Code) (s:Gs) (e:Ge) (s':Gs),w.run n c s=some (e,s')→GOk lo n s→
 (s.nx≤s'.nx∧GOk lo n s')∧ ∀(σ:Nm) (Q:Exit→St→Prop),(∀σ':Nm,(∀i,i<s.nx→σ' i=σ i)→Q e.x (s'.st σ'))→VC P n c (s.st σ) Q
def NamesOk (P:Program):Prop:= ∀(f:Nat) (fn:Func),P.funcs[f]?=some fn→(fn.name == "runtime.NumGoroutine")=false
theorem NamesOk.of {P:Program} (h:P.funcs.toList.all (fun fn=> !(fn.name == "runtime.NumGoroutine"))=true):NamesOk P:=fun f fn hf=>by
 have:=z'l.1 h fn (x'm.2 (Array.mem_of_getElem? hf))
 simpa using this
noncomputable def Zdu {P:Program} (T:Tab P) (env:Env) (V:Vh):List ResultVar→Option (List G)
 |[]=>some []
 | .tmp t::r=>match Zdu T env V r with|some l=>some (eAt env t::l)|none=>none
 | .cell a t::r=>match eAt env a with
  | .ptr b 0=>match v'Q V b with
   |some c=>match (T.get t).known&&Nat.beq (T.get t).size c.l.length,Zdu T env V r with
    |true,some rest=>match (T.get t).agg,c.l with
     |true,l=>some (.agg l::rest)
     |false,[d]=>some (d::rest)
     |_,_=>none
    |_,_=>none
   |none=>none
  |_=>none
theorem Zfv {env:Env} {t:Nat} (σ:Nm):cE σ env t=(eAt env t).d σ:=by rfl
theorem ZfE {P:Program} (T:Tab P) {env:Env} {V:Vh} {σ:Nm} (hn:(Vn σ V).blocks.Nodup): ∀{rs:List ResultVar} {gs:List G},Zdu T env V rs=some gs→Zcv T ⟨cE σ env,Vn σ V⟩ rs (gs.map (G.d σ))
 |[],gs,h=>by cases h;rfl
 | .tmp t::r,gs,h=>by
  unfold Zdu at h
  split at h
  ·rename_i l hl
   cases h
   exact⟨_,by rw[z'p, ←Zfv],ZfE T hn hl⟩
  ·cases h
 | .cell a t::r,gs,h=>by
  unfold Zdu at h
  split at h
  ·rename_i b ha
   split at h
   ·rename_i c hc
    split at h
    ·rename_i rest hb hr
     rw[z'd]at hb
     have hm:=x'o (w'y hn hc)
     obtain⟨ty',n',hcc⟩:=VB.c_cells σ b c (w'0 hc)
     have hcc':=hcc c.l
     rw[VB.put_l]at hcc'
     rw[hcc']at hm
     have e1:cE σ env a= .is (.pointer (some ⟨(σ b).1,0,none⟩)):=by rw[Zfv,ha];rfl
     have e2:(T.get t).size=(c.l.map (G.d σ)).length:=by rw[z'i];exact z's hb.2
     split at h
     ·rename_i hag
      cases h
      refine⟨_,_,_,_,rest.map (G.d σ),e1,hm,hb.1,e2,?_,ZfE T hn hr⟩
      rw[hag]
      simp only[z'p,G.d,G.dl_eq]
     ·rename_i d hag hl
      cases h
      refine⟨_,_,_,_,rest.map (G.d σ),e1,hm,hb.1,e2,?_,ZfE T hn hr⟩
      rw[hag,hl]
      exact⟨_,rfl,rfl⟩
     ·cases h
    ·cases h
   ·cases h
  ·cases h
theorem Zel {P:Program} (T:Tab P) {env:Env} {V:Vh} {lo:Nat→Prop} {hi:Nat} (he:BelE lo hi env) (hV:VOk lo hi V): ∀{rs:List ResultVar} {gs:List G},Zdu T env V rs=some gs→BelL lo hi gs
 |[],gs,h=>by cases h;intro g hg;cases hg
 | .tmp t::r,gs,h=>by
  unfold Zdu at h
  split at h
  ·rename_i l hl
   cases h
   intro g hg
   rcases z'v.1 hg with rfl|hg
   ·exact ZhN he t
   ·exact Zel T he hV hl g hg
  ·cases h
 | .cell a t::r,gs,h=>by
  unfold Zdu at h
  split at h
  ·split at h
   ·rename_i c hc
    have hb:=(hV _ _ (v'h hc)).2.2
    split at h
    ·rename_i rest _ hr
     split at h
     ·cases h
      intro g hg
      rcases z'v.1 hg with rfl|hg
      ·exact Bel.agg hb
      ·exact Zel T he hV hr g hg
     ·rename_i d _ hl
      cases h
      intro g hg
      rcases z'v.1 hg with rfl|hg
      ·exact hb g (by rw[hl];exact z't ..)
      ·exact Zel T he hV hr g hg
     ·cases h
    ·cases h
   ·cases h
  ·cases h
def Zig:List G→G
 |[g]=>g
 |gs=> .tup gs
theorem ZrR (σ:Nm): ∀gs:List G,Zfm (gs.map (G.d σ))=(Zig gs).d σ
 |[]=>rfl
 |[g]=>rfl
 |g::h::r=>by simp only[z'p,Zfm,Zig,G.d,G.dl_eq]
theorem Zqa {lo:Nat→Prop} {hi:Nat}: ∀{gs:List G},BelL lo hi gs→Bel lo hi (Zig gs)
 |[],_=>fun _ _ _=>rfl
 |[g],h=>h g (z't ..)
 |g::h::r,k=>Bel.tup k
mutual
def G.ids:G→List Nat→List Nat
 | .ptr b _,a=>b::a
 | .own b _,a=>b::a
 | .off b _ _ _,a=>b::a
 | .mp b,a=>b::a
 | .sl _ _ rows,a=>G.idr rows a
 | .pt l,a=>G.idl l a
 | .agg l,a=>G.idl l a
 | .tup l,a=>G.idl l a
 | .ifc _ g,a=>G.ids g a
 | .fn _ cs,a=>G.idl cs a
 |_,a=>a
def G.idl:List G→List Nat→List Nat
 |[],a=>a
 |g::r,a=>G.ids g (G.idl r a)
def G.idr:List (List G)→List Nat→List Nat
 |[],a=>a
 |g::r,a=>G.idl g (G.idr r a)
end
noncomputable def Zfc (i:Nat) (l:List Nat):Bool:=List.rec false (fun x _ ih=>match Nat.beq x i with|true=>true|false=>ih) l
noncomputable def ZcD (V:Vh) (nx:Nat):Nat→List Nat→List Nat→List Nat
 |0,_,acc=>acc
 |_+1,[],acc=>acc
 |n+1,b::r,acc=>match Nat.blt b nx||Zfc b acc with
  |true=>ZcD V nx n r acc
  |false=>match v'R V b with
   |some c=>ZcD V nx n (G.idl c.l r) (b::acc)
   |none=>ZcD V nx n r acc
noncomputable def Zil {R:Type} (V:Vh):(Nat→Bool)→(Vh→R)→R:=List.rec (fun _ k=>k []) (fun p _ ih f k=>match f p.1 with|true=>ih f fun W=>k (p::W)|false=>ih f k) V
theorem ZfV {R:Type}: ∀(V:Vh) (f:Nat→Bool) (k:Vh→R),Zil V f k=k (V.filter fun p=>f p.1)
 |[],f,k=>rfl
 |p::V,f,k=>by
  show(match f p.1 with|true=>Zil V f fun W=>k (p::W)|false=>Zil V f k)=_
  cases h:f p.1 with
  |true=>rw[List.filter_cons_of_pos (p:=fun q:Nat×VB=>f q.1) h];exact ZfV V f _
  |false=>rw[List.filter_cons_of_neg (p:=fun q:Nat×VB=>f q.1) (by simp[h])];exact ZfV V f _
def ZkJ:Vh→Nat→List Nat→List Nat
 |[],_,a=>a
 |p::V,nx,a=>match Nat.blt p.1 nx with|true=>G.idl p.2.l (ZkJ V nx a)|false=>ZkJ V nx a
noncomputable def ZqG (V:Vh) (nx:Nat) (g:G):Nat→Bool:=
 let ids:=ZcD V nx 1000 (ZkJ V nx (G.ids g [])) []
 fun i=>match Nat.blt i nx with|true=>true|false=>Zfc i ids
def c8:List G:=[.any,.any,.any,.any,.any,.any,.any,.any]
noncomputable def Zi5 {R:Type}:List G→Nat→Env→(Env→R)→R
 |[],_,env,k=>k env
 |a::r,i,env,k=>gPl a fun a=>ZhO env i a fun env=>Zi5 r (i+1) env k
def Zc5:List G→Nat→Env→Env
 |[],_,env=>env
 |a::r,i,env=>Zc5 r (i+1) (Zby env i a)
theorem Zjz {R:Type}: ∀(l:List G) (i:Nat) (env:Env) (k:Env→R),Zi5 l i env k=k (Zc5 l i env)
 |[],i,env,k=>rfl
 |a::r,i,env,k=>by rw[Zi5,ZeZ,Zfw,Zjz r];rfl
theorem Ziq {n:Nat}: ∀(l:List G) (i:Nat) (env:Env),ELen n env→ELen n (Zc5 l i env)
 |[],i,env,h=>h
 |a::r,i,env,h=>Ziq r (i+1) _ (Zcy h i a)
theorem Zip {lo:Nat→Prop} {hi:Nat}: ∀(l:List G) (i:Nat) (env:Env),BelL lo hi l→BelE lo hi env→BelE lo hi (Zc5 l i env)
 |[],i,env,_,h=>h
 |a::r,i,env,hl,h=>Zip r (i+1) _ (fun x hx=>hl x (z'o _ hx)) (Zd9 h i (hl a (z't ..)))
theorem ZjA {n:Nat}: ∀(l:List G) (i:Nat) (env:Env),ELen n env→i+l.length≤n→ ∀t,eAt (Zc5 l i env) t=if i≤t∧t<i+l.length then l.getD (t-i) .any else eAt env t
 |[],i,env,h,_,t=>by rw[if_neg (by simp only[z'V];omega)];rfl
 |a::r,i,env,h,hn,t=>by
  rw[z'q]at hn
  rw[Zc5,ZjA r (i+1) _ (Zcy h i a) (by omega),Zls h (by omega),z'q]
  by_cases e:i=t
  ·subst e
   rw[if_neg (by omega),if_pos rfl,if_pos (by omega),Nat.sub_self];rfl
  ·rw[if_neg e]
   by_cases h1:i+1≤t∧t<i+1+r.length
   ·rw[if_pos h1,if_pos (by omega),show t-i=(t-(i+1))+1 by omega,List.getD_cons_succ]
   ·rw[if_neg h1,if_neg (by omega)]
theorem Zto (m t:Nat):eAt (List.replicate m c8) t= .any:=by
 rw[Zd8,z'f,z'f,List.getElem?_replicate]
 have h8: ∀k:Nat,(c8[k]?).getD G.any= .any:=fun k=>by
  cases hq:c8[k]? with
  |none=>rfl
  |some g=>have:=z'E hq;simpa[c8]using this
 by_cases q:Nat.div t 8<m
 ·rw[if_pos q];exact h8 _
 ·rw[if_neg q];rfl
theorem Znx (n:Nat):ELen n (List.replicate (n/8+1) c8):=⟨fun c hc=>by rw[(List.mem_replicate.1 hc).2];rfl,by rw[List.length_replicate];omega⟩
theorem Zsg {lo:Nat→Prop} {hi m:Nat}:BelE lo hi (List.replicate m c8):=fun c hc g hg=>by
 rw[(List.mem_replicate.1 hc).2]at hg
 have:g= .any:=by simpa[c8]using hg
 subst this;exact Bel.any
noncomputable def Zed {P:Program} (T:Tab P) (w:Gw) (f:Nat) (args:List G) (V:Vh) (nx:Nat):Option (G×Vh×Nat):=match P.funcs[f]? with
 |none=>none
 |some fn=>match fn.body with
  |none=>none
  |some c=>match Nat.ble args.length fn.ntmps with
   |false=>none
   |true=>v'z (List.replicate (fn.ntmps/8+1) c8) fun sk=>Zi5 args 0 sk fun env=>match w.run fn.ntmps c ⟨env,V,nx⟩with
    |none=>none
    |some (e,s)=>match (match e with| .ex _=>none|_=>Zdu T s.env s.V fn.results.toList)with
     |none=>none
     |some gs=>gPl (Zig gs) fun g=>Zil s.V (ZqG s.V nx g) fun W=>some (g,W,s.nx)
theorem Zlm: ∀(l:List D) (i t:Nat),Zds l i t=if i≤t then l.getD (t-i) .any else .any
 |[],i,t=>by simp[Zds]
 |d::r,i,t=>by
  simp only[Zds,upd,Zlm r (i+1) t]
  by_cases h:i=t
  ·subst h;simp
  ·have:(i == t)=false:=by simpa using h
   rw[this,cond_false]
   by_cases h1:i≤t
   ·rw[if_pos h1,if_pos (by omega),show t-i=(t-(i+1))+1 by omega,List.getD_cons_succ]
   ·rw[if_neg h1,if_neg (by omega)]
theorem ZqT (σ:Nm) (args:List G) {n:Nat} (h:args.length≤n):Zds (args.map (G.d σ)) 0=cE σ (Zc5 args 0 (List.replicate (n/8+1) c8)):=by
 funext t
 rw[Zlm,if_pos (z'm _),Nat.sub_zero]
 simp only[cE]
 rw[ZjA args 0 _ (Znx n) (by omega),Zto]
 simp only[z'f,z'K]
 by_cases h:t<args.length
 ·rw[if_pos (by omega),z'k h,Nat.sub_zero,z'k h];rfl
 ·rw[if_neg (by omega),x'd (by omega)];rfl
theorem Zc1 (σ:Nm) (V:Vh) (f:Nat×VB→Bool):(Vn σ (V.filter f)).Sublist (Vn σ V):=List.Sublist.map _ List.filter_sublist
theorem VOk.filter {lo:Nat→Prop} {hi:Nat} {V:Vh} (h:VOk lo hi V) (f:Nat×VB→Bool):VOk lo hi (V.filter f):=fun b c hm=>h b c (x'H.1 hm).1
theorem VC.nodupH {P:Program} {n:Nat} {c:Code} {s:St} {Q:Exit→St→Prop} (h:VC P n c s (fun e s=>s.heap.blocks.Nodup→Q e s)):VC P n c s Q:=fun x a w hn hs=>by
 refine wp_mono (h x a w hn hs) ?_
 rintro e a' w' ⟨s',hq,hr⟩
 exact⟨s',hq hr.inv.nodup,hr⟩
theorem ZbA {P:Program} (T:Tab P) (hN:NamesOk P) {w:Gw} (hw:v'n P w) {lo:Nat→Prop} {f nx nx':Nat} {args:List G} {V V':Vh} {g:G} (h:Zed T w f args V nx=some (g,V',nx')) (hup: ∀i,nx≤i→lo i) (ha:BelL lo nx args)
  (hV:VOk lo nx V):(nx≤nx'∧VOk lo nx' V'∧Bel lo nx' g)∧ ∀σ:Nm,Fun P f (args.map (G.d σ)) (Vn σ V) false (fun d H'=> ∃σ':Nm,(∀i,i<nx→σ' i=σ i)∧d=g.d σ'∧H'=Vn σ' V'):=by
 unfold Zed at h
 split at h
 ·cases h
 rename_i fn hf
 split at h
 ·cases h
 rename_i c hb
 split at h
 ·cases h
 rename_i hle
 rw[x'S,Zjz]at h
 split at h
 ·cases h
 rename_i e s hs
 split at h
 ·cases h
 rename_i gs hgs
 rw[ZeZ,ZfV]at h
 cases h
 have hle':=z'F hle
 have h0:GOk lo fn.ntmps ⟨Zc5 args 0 (List.replicate (fn.ntmps/8+1) c8),V,nx⟩:=⟨Ziq _ _ _ (Znx _),hup,Zip _ _ _ ha Zsg,hV⟩
 obtain⟨⟨h1,h2⟩,h3⟩:=hw.2 lo _ _ _ _ _ hs h0
 have hgs':Zdu T s.env s.V fn.results.toList=some gs:=by
  split at hgs
  ·cases hgs
  ·exact hgs
 refine⟨⟨h1,h2.V.filter _,Zqa (Zel T h2.env h2.V hgs')⟩,fun σ=>?_⟩
 refine Fun.of T (c:=c) (n:=fn.ntmps) fn.results.toList hf hb rfl (by simp) (by rw[z'i];exact hle) (hN f fn hf) ?_
 rw[ZqT σ args hle']
 refine VC.nodupH (h3 σ _ fun σ' hag hnd=>?_)
 have key: ∃ds H',Zcv T (s.st σ') fn.results.toList ds∧H'.Sublist (Vn σ' s.V)∧ ∃σ':Nm,(∀i,i<nx→σ' i=σ i)∧Zfm ds=(Zig gs).d σ'∧H'=Vn σ' (s.V.filter fun p=>ZqG s.V nx (Zig gs) p.1):=
  ⟨_,_,ZfE T hnd hgs',Zc1 σ' s.V _,σ',hag,ZrR σ' gs,rfl⟩
 cases e with
 |nm=>exact key
 |rt=>exact key
 |ex i=>cases hgs
noncomputable def ZaE (f:G→Option G):List G→Option (List G)
 |[]=>some []
 |g::r=>match f g with
  |some g'=>match ZaE f r with|some l=>some (g'::l)|none=>none
  |none=>none
noncomputable def gFz (V:Vh):Nat→G→Option G
 |0,_=>none
 |n+1,.own b k=>match v'Q V b with
  |some (.gro e esz l)=>match Nat.ble (k*esz) l.length with
   |true=>match ZaE (gFz V n) (l.take (k*esz))with|some l'=>v'z l' fun l'=>some (.sl false esz (Zem esz k l'))|none=>none
   |false=>none
  |_=>none
 |n+1,.off b o k _=>match v'Q V b with
  |some (.gro e esz l)=>match Nat.ble (o+k*esz) l.length with
   |true=>match ZaE (gFz V n) ((l.drop o).take (k*esz))with|some l'=>v'z l' fun l'=>some (.sl false esz (Zem esz k l'))|none=>none
   |false=>none
  |_=>none
 |n+1,.ptr b o=>match v'Q V b with
  |some c=>match ZaE (gFz V n) (c.l.drop o)with|some l'=>v'z l' fun l'=>some (.pt l')|none=>none
  |none=>none
 |n+1,.agg l=>match ZaE (gFz V n) l with|some l'=>v'z l' fun l'=>some (.agg l')|none=>none
 |n+1,.tup l=>match ZaE (gFz V n) l with|some l'=>v'z l' fun l'=>some (.tup l')|none=>none
 |_+1,g=>some g
theorem Zgs {f:G→Option G}: ∀{l l':List G},ZaE f l=some l'→l'.length=l.length
 |[],l',h=>by cases h;rfl
 |g::r,l',h=>by
  unfold ZaE at h
  split at h
  ·split at h
   ·rename_i hr;cases h;rw[z'q,z'q,Zgs hr]
   ·cases h
  ·cases h
theorem Zeh {H:Heap} {σ:Nm} {f:G→Option G} (hf: ∀g g',f g=some g'→Fz H (g'.d σ) (g.d σ)): ∀{l l':List G} (r:List D),ZaE f l=some l'→FzC H (l'.map (G.d σ)) (l.map (G.d σ)++r)
 |[],l',r,h=>by cases h;exact trivial
 |g::k,l',r,h=>by
  unfold ZaE at h
  split at h
  ·rename_i g' hg
   split at h
   ·rename_i l hr
    cases h
    exact⟨_,_,rfl,hf _ _ hg,Zeh hf r hr⟩
   ·cases h
  ·cases h
theorem Zei {H:Heap} {σ:Nm} {f:G→Option G} (hf: ∀g g',f g=some g'→Fz H (g'.d σ) (g.d σ)): ∀{l l':List G},ZaE f l=some l'→FzL H (l'.map (G.d σ)) (l.map (G.d σ))
 |[],l',h=>by cases h;rfl
 |g::k,l',h=>by
  unfold ZaE at h
  split at h
  ·rename_i g' hg
   split at h
   ·rename_i l hr
    cases h
    exact⟨_,_,rfl,hf _ _ hg,Zei hf hr⟩
   ·cases h
  ·cases h
theorem FzC.take {H:Heap}: ∀(n:Nat) (l' l:List D),FzC H l' l→FzC H (l'.take n) l
 |0,l',l,h=>by simp[FzC]
 |n+1,[],l,h=>by simp[FzC]
 |n+1,d::ds,l,h=>by
  obtain⟨e,es,rfl,h1,h2⟩:=h
  exact⟨e,es,rfl,h1,FzC.take n ds es h2⟩
theorem FzC.drop {H:Heap}: ∀(n:Nat) (l' l:List D),FzC H l' l→FzC H (l'.drop n) (l.drop n)
 |0,l',l,h=>by simpa using h
 |n+1,[],l,h=>by simp[FzC]
 |n+1,d::ds,l,h=>by
  obtain⟨e,es,rfl,h1,h2⟩:=h
  simpa using FzC.drop n ds es h2
theorem Zcu {H:Heap} {esz:Nat}: ∀(k:Nat) (l' l:List D),l'.length=k*esz→FzC H l' l→FzR H esz (w'Y esz k l') l
 |0,l',l,_,_=>trivial
 |k+1,l',l,hl,h=>by
  rw[w'Y]
  refine⟨?_,FzC.take _ _ _ h,Zcu k _ _ ?_ (FzC.drop _ _ _ h)⟩
  ·rw[z'T,hl,x'i];omega
  ·rw[x'b,hl,x'i];omega
theorem ZeH (esz:Nat): ∀(k:Nat) (l:List D),(w'Y esz k l).length=k
 |0,l=>rfl
 |k+1,l=>by rw[w'Y,z'q,ZeH esz k]
theorem ZcB {V:Vh} {σ:Nm} (hn:(Vn σ V).blocks.Nodup): ∀(n:Nat) (g g':G),gFz V n g=some g'→Fz (Vn σ V) (g'.d σ) (g.d σ)
 |0,g,g',h=>by cases h
 |n+1,g,g',h=>by
  have ih:=ZcB hn n
  unfold gFz at h
  split at h
  ·cases h
  ·rename_i n' b k hnn
   cases hnn
   split at h
   ·rename_i e esz l hc
    split at h
    ·rename_i hb
     have hb:=z'F hb
     split at h
     ·rename_i l' hm
      rw[x'S]at h
      cases h
      have hl:=Zgs hm
      have h1:=Zeh (σ:=σ) (H:=Vn σ V) ih (((l.drop (k*esz))).map (G.d σ)) hm
      rw[←List.map_append,List.take_append_drop]at h1
      refine .inr ⟨rfl,.inr (.inr ⟨(σ b).1,0,k,(σ b).2,.inl ⟨rfl,rfl⟩,?_,_,_,l.map (G.d σ),x'o (w'y hn hc),?_⟩)⟩
      ·rw[G.dr_eq,z'i, ←List.length_map (f:=List.map (G.d σ)), ←ZbD,ZeH]
      ·rw[G.dr_eq, ←ZbD,y'e]
       refine Zcu k _ _ ?_ h1
       rw[z'i,hl,z'T];omega
     ·cases h
    ·cases h
   ·cases h
  ·rename_i n' b o k c hnn
   cases hnn
   split at h
   ·rename_i e esz l hc
    split at h
    ·rename_i hb
     have hb:=z'F hb
     split at h
     ·rename_i l' hm
      rw[x'S]at h
      cases h
      have hl:=Zgs hm
      have h1:=Zeh (σ:=σ) (H:=Vn σ V) ih ((((l.drop o)).drop (k*esz)).map (G.d σ)) hm
      rw[←List.map_append,List.take_append_drop]at h1
      refine .inr ⟨rfl,.inr (.inr ⟨(σ b).1,o,k,(σ b).2-c,.inr rfl,?_,_,_,l.map (G.d σ),x'o (w'y hn hc),?_⟩)⟩
      ·rw[G.dr_eq,z'i, ←List.length_map (f:=List.map (G.d σ)), ←ZbD,ZeH]
      ·rw[G.dr_eq, ←ZbD, ←List.map_drop]
       refine Zcu k _ _ ?_ h1
       rw[z'i,hl,z'T,x'b];omega
     ·cases h
    ·cases h
   ·cases h
  ·rename_i n' b o hnn
   cases hnn
   split at h
   ·rename_i c hc
    split at h
    ·rename_i l' hm
     rw[x'S]at h
     cases h
     obtain⟨ty',n',hcc⟩:=VB.c_cells σ b c (w'0 hc)
     have hcc':=hcc c.l
     rw[VB.put_l]at hcc'
     have hg:=x'o (w'y hn hc)
     rw[hcc']at hg
     refine .inr ⟨(σ b).1,o,_,_,_,rfl,hg,?_⟩
     rw[G.dl_eq, ←List.map_drop]
     have h1:=Zeh (σ:=σ) (H:=Vn σ V) ih [] hm
     rw[z'u]at h1
     exact h1
    ·cases h
   ·cases h
  ·rename_i n' l hnn
   cases hnn
   split at h
   ·rename_i l' hm
    rw[x'S]at h
    cases h
    simp only[G.d,G.dl_eq]
    exact⟨_,rfl,Zei ih hm⟩
   ·cases h
  ·rename_i n' l hnn
   cases hnn
   split at h
   ·rename_i l' hm
    rw[x'S]at h
    cases h
    simp only[G.d,G.dl_eq]
    exact⟨_,rfl,Zei ih hm⟩
   ·cases h
  ·cases h
   exact Fz.refl _ _
theorem v'X {lo:Nat→Prop} {hi:Nat} {f:G→Option G} (hf: ∀g g',Bel lo hi g→f g=some g'→Bel lo hi g'): ∀{l l':List G},BelL lo hi l→ZaE f l=some l'→BelL lo hi l'
 |[],l',_,h=>by cases h;intro g hg;cases hg
 |g::r,l',hb,h=>by
  unfold ZaE at h
  split at h
  ·rename_i g' hg
   split at h
   ·rename_i l hr
    cases h
    intro x hx
    rcases z'v.1 hx with rfl|hx
    ·exact hf _ _ (hb g (z't ..)) hg
    ·exact v'X hf (fun y hy=>hb y (z'o _ hy)) hr x hx
   ·cases h
  ·cases h
theorem ZhX {lo:Nat→Prop} {hi:Nat} {V:Vh} (hV:VOk lo hi V): ∀(n:Nat) (g g':G),Bel lo hi g→gFz V n g=some g'→Bel lo hi g'
 |0,g,g',_,h=>by cases h
 |n+1,g,g',hg,h=>by
  have ih:=ZhX hV n
  unfold gFz at h
  split at h
  ·cases h
  ·rename_i n' b k hnn
   cases hnn
   split at h
   ·rename_i hc
    split at h
    ·split at h
     ·rename_i l' hm
      rw[x'S]at h
      cases h
      exact Bel.sl (Zdb _ _ _ (v'X ih (BelL.take (hV _ _ (v'h hc)).2.2 _) hm))
     ·cases h
    ·cases h
   ·cases h
  ·rename_i n' b o k c hnn
   cases hnn
   split at h
   ·rename_i hc
    split at h
    ·split at h
     ·rename_i l' hm
      rw[x'S]at h
      cases h
      exact Bel.sl (Zdb _ _ _ (v'X ih (BelL.take (BelL.drop (hV _ _ (v'h hc)).2.2 _) _) hm))
     ·cases h
    ·cases h
   ·cases h
  ·rename_i n' b o hnn
   cases hnn
   split at h
   ·rename_i hc
    split at h
    ·rename_i l' hm
     rw[x'S]at h
     cases h
     exact Bel.pt (v'X ih (BelL.drop (hV _ _ (v'h hc)).2.2 _) hm)
    ·cases h
   ·cases h
  ·rename_i n' l hnn
   cases hnn
   split at h
   ·rename_i l' hm
    rw[x'S]at h
    cases h
    exact Bel.agg (v'X ih hg.agg_l hm)
   ·cases h
  ·rename_i n' l hnn
   cases hnn
   split at h
   ·rename_i l' hm
    rw[x'S]at h
    cases h
    exact Bel.tup (v'X ih hg.tup_l hm)
   ·cases h
  ·cases h;exact hg
mutual
theorem ZfH: ∀(g:G) (a:List Nat) (i:Nat),i∈G.ids g a↔i∈G.ids g []∨i∈a
 | .int k n,a,i=>by simp[G.ids]
 | .bool b,a,i=>by simp[G.ids]
 | .str l,a,i=>by simp[G.ids]
 | .ptr b o,a,i=>by simp[G.ids]
 | .val v,a,i=>by simp[G.ids]
 | .sl f e rows,a,i=>ZlH rows a i
 | .pt l,a,i=>ZbG l a i
 | .own b n,a,i=>by simp[G.ids]
 | .nils,a,i=>by simp[G.ids]
 | .off b o n c,a,i=>by simp[G.ids]
 | .agg l,a,i=>ZbG l a i
 | .tup l,a,i=>ZbG l a i
 | .ifc t g,a,i=>ZfH g a i
 | .fn f cs,a,i=>ZbG cs a i
 | .mp b,a,i=>by simp[G.ids]
 | .any,a,i=>by simp[G.ids]
theorem ZbG: ∀(l:List G) (a:List Nat) (i:Nat),i∈G.idl l a↔i∈G.idl l []∨i∈a
 |[],a,i=>by simp[G.idl]
 |g::r,a,i=>by
  rw[G.idl,G.idl,ZfH g (G.idl r a) i,ZfH g (G.idl r []) i,ZbG r a i,or_assoc]
theorem ZlH: ∀(l:List (List G)) (a:List Nat) (i:Nat),i∈G.idr l a↔i∈G.idr l []∨i∈a
 |[],a,i=>by simp[G.idr]
 |g::r,a,i=>by
  rw[G.idr,G.idr,ZbG g (G.idr r a) i,ZbG g (G.idr r []) i,ZlH r a i,or_assoc]
end
mutual
theorem Zhg (σ τ:Nm): ∀(g:G) (a:List Nat),(∀i,i∈G.ids g a→σ i=τ i)→(∀i,i∈a→σ i=τ i)∧g.d σ=g.d τ∧g.v σ=g.v τ
 | .int k n,a,h=>⟨h,rfl,rfl⟩
 | .bool b,a,h=>⟨h,rfl,rfl⟩
 | .str l,a,h=>⟨h,rfl,rfl⟩
 | .ptr b o,a,h=>⟨fun i hi=>h i (z'o _ hi),by simp only[G.d,h b (z't ..)],by simp only[G.v,h b (z't ..)]⟩
 | .val v,a,h=>⟨h,rfl,rfl⟩
 | .sl f e rows,a,h=>by
  obtain⟨h1,h2⟩:=Zn5 σ τ rows a h
  exact⟨h1,by simp only[G.d,h2],rfl⟩
 | .pt l,a,h=>by
  obtain⟨h1,h2,_⟩:=ZcG σ τ l a h
  exact⟨h1,by simp only[G.d,h2],rfl⟩
 | .own b n,a,h=>⟨fun i hi=>h i (z'o _ hi),by simp only[G.d,h b (z't ..)],rfl⟩
 | .nils,a,h=>⟨h,rfl,rfl⟩
 | .off b o n c,a,h=>⟨fun i hi=>h i (z'o _ hi),by simp only[G.d,h b (z't ..)],rfl⟩
 | .agg l,a,h=>by
  obtain⟨h1,h2,_⟩:=ZcG σ τ l a h
  exact⟨h1,by simp only[G.d,h2],rfl⟩
 | .tup l,a,h=>by
  obtain⟨h1,h2,_⟩:=ZcG σ τ l a h
  exact⟨h1,by simp only[G.d,h2],rfl⟩
 | .ifc t g,a,h=>by
  obtain⟨h1,h2,_⟩:=Zhg σ τ g a h
  exact⟨h1,by simp only[G.d,h2],rfl⟩
 | .fn f cs,a,h=>by
  obtain⟨h1,_,h2⟩:=ZcG σ τ cs a h
  exact⟨h1,by simp only[G.d,h2],rfl⟩
 | .mp b,a,h=>⟨fun i hi=>h i (z'o _ hi),by simp only[G.d,h b (z't ..)],rfl⟩
 | .any,a,h=>⟨h,rfl,rfl⟩
theorem ZcG (σ τ:Nm): ∀(l:List G) (a:List Nat),(∀i,i∈G.idl l a→σ i=τ i)→(∀i,i∈a→σ i=τ i)∧G.dl σ l=G.dl τ l∧l.map (G.v σ)=l.map (G.v τ)
 |[],a,h=>⟨h,rfl,rfl⟩
 |g::r,a,h=>by
  obtain⟨h1,h2,h3⟩:=Zhg σ τ g _ h
  obtain⟨h4,h5,h6⟩:=ZcG σ τ r _ h1
  exact⟨h4,by rw[G.dl,G.dl,h2,h5],by rw[z'p,z'p,h3,h6]⟩
theorem Zn5 (σ τ:Nm): ∀(l:List (List G)) (a:List Nat),(∀i,i∈G.idr l a→σ i=τ i)→(∀i,i∈a→σ i=τ i)∧G.dr σ l=G.dr τ l
 |[],a,h=>⟨h,rfl⟩
 |g::r,a,h=>by
  obtain⟨h1,h2,_⟩:=ZcG σ τ g _ h
  obtain⟨h3,h4⟩:=Zn5 σ τ r _ h1
  exact⟨h3,by rw[G.dr,G.dr,h2,h4]⟩
end
def gNo (g:G):Bool:=match G.ids g []with|[]=>true|_::_=>false
theorem v'J {g:G} (h:gNo g=true) (σ τ:Nm):g.d σ=g.d τ:=by
 unfold gNo at h
 split at h
 ·rename_i e;exact(Zhg σ τ g [] fun i hi=>by rw[e]at hi;cases hi).2.1
 ·cases h
def ltI (nx:Nat) (l:List Nat):Bool:=l.all fun i=>Nat.blt i nx
def ltG (nx:Nat) (g:G):Bool:=ltI nx (G.ids g [])
theorem Zkp {nx:Nat} {l:List Nat} (h:ltI nx l=true): ∀i,i∈l→i<nx:=fun i hi=>Nat.blt_eq.mp (z'l.1 h i hi)
theorem Zn9 {nx:Nat} {g:G} (h:ltG nx g=true) {σ τ:Nm} (k: ∀i,i<nx→σ i=τ i):g.d σ=g.d τ:=(Zhg σ τ g [] fun i hi=>k i (Zkp h i hi)).2.1
theorem Zsx {nx:Nat} {l:List G} (h:ltI nx (G.idl l [])=true) {σ τ:Nm} (k: ∀i,i<nx→σ i=τ i):l.map (G.d σ)=l.map (G.d τ):=by
 have:=(ZcG σ τ l [] fun i hi=>k i (Zkp h i hi)).2.1
 rwa [G.dl_eq,G.dl_eq]at this
def ZfN (nx:Nat) (σ τ:Nm):Nm:=fun i=>bif Nat.blt i nx then τ i else σ i
theorem Zkt {nx:Nat} {σ τ:Nm} {i:Nat} (h:i<nx):ZfN nx σ τ i=τ i:=by simp only[ZfN,show Nat.blt i nx=true from Nat.blt_eq.mpr h,cond_true]
theorem ZpS {nx:Nat} {σ τ:Nm} {i:Nat} (h: ¬i<nx):ZfN nx σ τ i=σ i:=by
 have:Nat.blt i nx=false:=by rw[←Bool.not_eq_true];exact fun e=>h (Nat.blt_eq.mp e)
 simp only[ZfN,this,cond_false]
theorem ZpR {lo:Nat→Prop} {nx nx':Nat} {σ τ:Nm} (k: ∀i,lo i→i<nx→σ i=τ i): ∀i,lo i→i<nx'→σ i=ZfN nx σ τ i:=fun i hl _=>by
 by_cases h:i<nx
 ·rw[Zkt h];exact k i hl h
 ·rw[ZpS h]
theorem Bel.lt {lo:Nat→Prop} {nx nx':Nat} {g:G} (h:Bel lo nx' g) (k:ltG nx g=true):Bel lo nx g:=fun σ τ q=>(h σ (ZfN nx σ τ) (ZpR q)).trans (Zn9 k fun i hi=>Zkt hi)
theorem Zrt {g:G}: ∀{l:List G} {a:List Nat},g∈l→ ∀i,i∈G.ids g []→i∈G.idl l a:=by
 have app:(∀(g:G) (a:List Nat) (i:Nat),i∈G.ids g a↔i∈G.ids g []∨i∈a):=fun g a i=>ZfH g a i
 intro l
 induction l with
 |nil=>intro a h;cases h
 |cons x r ih=>
  intro a h i hi
  rcases z'v.1 h with rfl|h
  ·exact(app _ _ i).2 (.inl hi)
  ·exact(app _ _ i).2 (.inr (ih h i hi))
def Zj5:G→Bool
 | .int .. | .bool _| .str _| .val _=>true
 | .tup l=>l.all fun g=>match g with| .int .. | .bool _| .str _| .val _=>true|_=>false
 |_=>false
theorem ZiB {g:G} (h:Zj5 g=true) (σ:Nm):Zfj (g.d σ)=true:=by
 cases g<;>first|rfl|(cases h;done)|skip
 rename_i l
 simp only[G.d,Zfj,G.dl_eq,List.all_map,z'l]
 intro x hx
 have:=z'l.1 h x hx
 cases x<;>first|rfl|cases this
def ZpP:G→Bool
 | .own .. | .off .. | .ptr .. =>true
 | .agg l=>l.any fun g=>match g with| .own .. | .off .. | .ptr .. =>true|_=>false
 |_=>false
theorem ZsL {H X:Heap} (h:(H++X).blocks.Nodup): ∀b,b∈H.blocks→b∉X.blocks:=by
 rw[Heap.blocks,z'A]at h
 obtain⟨_,_,h3⟩:=y'S.1 h
 exact fun b h1 h2=>h3 b h1 b h2 rfl
theorem OpS.freezeP {P:Program} {o:Oper} {E:Operand→D} {H:Heap} {Φ Ψ:D→Heap→Prop} (h:OpS P o E H Φ) (hf: ∀d G,Φ d G→G.blocks.Nodup→ ∃d' Hk G2,Ψ d' G2∧Fz Hk d' d∧(∀b c,(b,c)∈Hk→(b,c)∈G∧b∉G2.blocks)∧G2.Sublist G):OpS P o E H Ψ:=by
 intro w L0 ε hi hx
 refine(h w L0 ε hi hx).mono fun v w' ⟨d,G',h1,h2,h3,h4⟩=>?_
 obtain⟨d',Hk,G2,k1,hz,k2,hs⟩:=hf d G' h1 h3.nodup
 refine⟨d',G2,k1,?_,SubH.inv hs h3,SubH.evo hs h4⟩
 refine Rel.fz (H1:=Hk) (L:=live G2 L0) ⟨h3,fun b c hm=>⟨(k2 b c hm).1,fun hl=>?_⟩,fun b _ hl=>hl.imp id (SubH.blocks hs b)⟩ d' d v hz h2
 rcases hl with hl|hl
 ·exact h3.apart b (z'w.2 ⟨(b,c),(k2 b c hm).1,rfl⟩) hl
 ·exact(k2 b c hm).2 hl
theorem OpS.freezeN {P:Program} {o:Oper} {E:Operand→D} {H:Heap} {Φ:D→Heap→Prop} {d':D} (h:OpS P o E H Φ) (hf: ∀d H',Φ d H'→H'.blocks.Nodup→ ∃Hk,H'=Hk++H∧Fz Hk d' d):OpS P o E H (fun d'' H''=>d''=d'∧H''=H):=by
 refine h.freezeP fun d G hΦ hn=>?_
 obtain⟨Hk,rfl,hz⟩:=hf d G hΦ hn
 refine⟨d',Hk,H,⟨rfl,rfl⟩,hz,fun b c hm=>⟨y'H _ hm,fun hl=>?_⟩,List.sublist_append_right _ _⟩
 exact ZsL hn b (z'w.2 ⟨(b,c),hm,rfl⟩) hl
theorem Op1.opS {P:Program} {o:Oper} {E:Operand→D} {H:Heap} {K:D→Heap→Prop} (h:Op1 P o E H K):OpS P o E H K:=let ⟨_,h1,h2⟩:=h;h1.mono h2
def ZtX:G→Bool
 | .agg _=>true
 | .tup l=>l.any fun g=>match g with| .agg _=>true|_=>false
 |_=>false
noncomputable def ZmG (b:Bool) (g:G) (V:Vh) (nx:Nat):Option (G×Vh×Nat):=match b with
 |false=>some (g,V,nx)
 |true=>
  let ids:=ZcD V 0 1000 (G.ids g []) []
  Zil V (fun i=>Zfc i ids) fun Vd=>match gFz Vd 8 g with
   |some g'=>match gNo g' with
    |true=>Zil V (fun i=> !Zfc i ids) fun V2=>gPl g' fun g'=>some (g',V2,nx)
    |false=>some (g,V,nx)
   |none=>some (g,V,nx)
theorem Zly {P:Program} {b:Bool} {o:Oper} {lo:Nat→Prop} {nx nx1 nx':Nat} {env:Env} {V V1 V':Vh} {g g':G} (h:ZmG b g V1 nx1=some (g',V',nx')) (hm:w'C P o lo env V nx g V1 nx1):w'C P o lo env V nx g' V' nx':=by
 unfold ZmG at h
 split at h
 ·cases h;exact hm
 ·simp only[ZfV]at h
  split at h
  ·rename_i g2 hz
   split at h
   ·rename_i hno
    rw[ZeZ]at h
    cases h
    obtain⟨⟨h1,h2,h3⟩,h4⟩:=hm
    refine⟨⟨h1,h2.filter _,fun σ τ _=>v'J hno σ τ⟩,fun σ K hn hk=>?_⟩
    have h5:=Op1.opS (h4 σ (fun d H'=> ∃σ':Nm,(∀i,i<nx→σ' i=σ i)∧d=g.d σ'∧H'=Vn σ' V1) hn fun σ' hag=>⟨σ',hag,rfl,rfl⟩)
    refine⟨fun d H'=> ∃σ':Nm,(∀i,i<nx→σ' i=σ i)∧d=g'.d σ'∧H'=Vn σ' (V1.filter fun p=> !Zfc p.1 (ZcD V1 0 1000 (G.ids g []) [])),h5.freezeP ?_,?_⟩
    ·rintro d G ⟨σ',hag,rfl,rfl⟩ hnd
     refine⟨_,Vn σ' (V1.filter fun p=>Zfc p.1 (ZcD V1 0 1000 (G.ids g []) [])),_,⟨σ',hag,rfl,rfl⟩,ZcB (List.Nodup.sublist ((Zc1 σ' V1 _).map _) hnd) 8 _ _ hz,fun b c hb=>⟨(Zc1 σ' V1 _).subset hb,fun hb2=>?_⟩,Zc1 σ' V1 _⟩
     obtain⟨p,hp,hpe⟩:=z'w.1 hb
     obtain⟨q,hq,hqe⟩:=z'w.1 hb2
     obtain⟨r,hr,rfl⟩:=z'w.1 hq
     have hp':=x'H.1 hp
     have hr':=x'H.1 hr
     have e1:(σ' p.1).1=b:=congrArg Prod.fst hpe
     have e2:(σ' r.1).1=b:=hqe
     rw[v'u]at hnd
     have:p.1=r.1:=by
      obtain⟨i,hi,hpi⟩:=List.getElem_of_mem hp'.1
      obtain⟨j,hj,hrj⟩:=List.getElem_of_mem hr'.1
      have:=(List.getElem_inj (h₀:=by simpa using hi) (h₁:=by simpa using hj) hnd).1 (by simp only[List.getElem_map,hpi,hrj];rw[e1,e2])
      subst this
      rw[hpi]at hrj
      rw[hrj]
     rw[this]at hp'
     have a1:=hp'.2
     have a2:=hr'.2
     simp only[z'y]at a2
     rw[a1]at a2;cases a2
    ·rintro d H' ⟨σ',hag,rfl,rfl⟩;exact hk σ' hag
   ·cases h;exact hm
  ·cases h;exact hm
theorem Bel.fn_l {lo:Nat→Prop} {hi:Nat} {f:FuncId} {cs:List G} (h:Bel lo hi (.fn f cs)) (hv:cs.all G.isV=true):BelL lo hi cs:=fun g hg σ τ k=>by
 have:=h σ τ k
 simp only[G.d,D.is.injEq,Value.func.injEq,true_and]at this
 have h1:cs.map (G.v σ)=cs.map (G.v τ):=List.toArray_inj this
 have h2:=z'l.1 hv g hg
 rw[G.isV_d h2,G.isV_d h2,v'd h1 g hg]
theorem Op1.lendOE {P:Program} {o:Oper} {E E':Operand→D} {H:Heap} {d0:D} {K:D→Heap→Prop} (h:OpS P o E' [] (fun d H'=>d=d0∧H'=[])) (ha: ∀x,x∈o.op.operands→Fz H (E' x) (E x)) (hp:Zfj d0=true) (hk:K d0 H):Op1 P o E H K:=by
 refine⟨fun d H'=>d=d0∧H'=H,?_,fun d H' ⟨h1,h2⟩=>h1▸h2▸hk⟩
 intro w L0 ε hi hx
 have hlet:ZeM w L0 H H (live [] L0):=⟨hi,fun b c hm=>⟨hm,fun hl=>by
  rcases hl with hl|hl
  ·exact hi.apart b (z'w.2 ⟨_,hm,rfl⟩) hl
  ·cases hl⟩,fun b _ hl=>by
  rcases hl with hl|hl
  ·exact .inl hl
  ·cases hl⟩
 have hi0:HInv w L0 []:=⟨fun b c hm=>(by cases hm),w'F,fun b hb=>(by cases hb),hi.old⟩
 have hg:=h w L0 ε hi0 (fun x hm=>Rel.fz hlet _ _ _ (ha x hm) (hx x hm))
 have key: ∀v w',(∃d Hp,(d=d0∧Hp=[])∧Rel w' (live Hp L0) d v∧HInv w' L0 Hp∧Evo w [] w' Hp)→ ∃d H',(d=d0∧H'=H)∧Rel w' (live H' L0) d v∧HInv w' L0 H'∧Evo w H w' H':=by
  rintro v w' ⟨d,Hp,⟨rfl,rfl⟩,hrel,hi',he⟩
  have hblk: ∀b,b<w.heap.size→w'.heap[b]?=w.heap[b]?:=fun b hb=>he.block b hb (by simp[Heap.blocks])
  have hlt: ∀b,b∈H.blocks→b<w.heap.size:=fun b hb=>hi.lt hb
  have hkeep:Keeps w (live H L0) w' (live H L0):=fun b hb hn=>⟨hblk b hb,hn⟩
  exact⟨d,H,⟨rfl,rfl⟩,Rel.plain hp hrel,⟨fun b c hm=>(hi.rel b c hm).mono hkeep (hblk b (hlt b (z'w.2 ⟨_,hm,rfl⟩))),hi.nodup,hi.apart,hi'.old⟩,
   ⟨he.os,he.tape,he.output,he.size,fun b hb _=>hblk b hb,fun b hb=> .inl hb⟩⟩
 exact hg.mono key
noncomputable def Zg4 {P:Program} (T:Tab P) (gx:G) (V:Vh) (t u:TypeId):Option G:=match gFz V 8 gx with
 |some g'=>match Zfz (kdElem T.get (kdT (T.get t))) (kdT (T.get t)) (kdT (T.get u)) g' with
  |some g=>match Zj5 g&&gNo g with|true=>some g|false=>none
  |none=>none
 |none=>none
theorem Ziy {P:Program} (T:Tab P) {o:Oper} {env:Env} {V:Vh} {t u:TypeId} {x:Operand} {gx g:G} (ho:o.op= .convert t u x) (hx:gX env x=some gx) (h:Zg4 T gx V t u=some g):(∀{lo:Nat→Prop} {hi:Nat},Bel lo hi g)∧
  ∀(σ:Nm) (K:D→Heap→Prop),(Vn σ V).blocks.Nodup→K (g.d σ) (Vn σ V)→Op1 P o (evD (cE σ env)) (Vn σ V) K:=by
 unfold Zg4 at h
 split at h
 ·rename_i g' hz
  split at h
  ·rename_i g1 hc
   split at h
   ·rename_i hp
    cases h
    rw[z'd]at hp
    refine⟨fun σ τ _=>v'J hp.2 σ τ,fun σ K hn hk=>?_⟩
    refine Op1.lendOE (E':=fun _=>g'.d σ) (d0:=g.d σ) (Op1.opS (Zif T ho (ZjO hc ⟨rfl,rfl⟩))) (fun y hy=>?_) (ZiB hp.1 σ) hk
    have:y=x:=by simpa[ho,Op.operands]using hy
    subst this
    rw[z'2 hx]
    exact ZcB hn 8 _ _ hz
   ·cases h
  ·cases h
 ·cases h
def ZsR:G→Bool
 | .own .. | .off .. =>true
 |_=>false
noncomputable def ZmI {P:Program} (T:Tab P) (w:Gw) (env:Env) (nx:Nat) (x:Operand) (name:String) (axs:Array Operand):Option (FuncId×G×Vh×Nat):=match gX env x,gXs env axs.toList with
 |some (.ifc t g),some args=>match Zjd P t name with
  |some f=>match Zed T w f (g::args) [] nx with|some (g',V1,nx1)=>some (f,g',V1,nx1)|none=>none
  |none=>none
 |_,_=>none
theorem Bel.ifc_g {lo:Nat→Prop} {hi:Nat} {t:TypeId} {g:G} (h:Bel lo hi (.ifc t g)):Bel lo hi g:=fun σ τ k=>by
 have:=h σ τ k
 simp only[G.d,D.ifc.injEq,true_and]at this
 exact this
theorem Zlz {P:Program} (T:Tab P) (hN:NamesOk P) {w:Gw} (hw:v'n P w) {o:Oper} {lo:Nat→Prop} {nx nx1:Nat} {env:Env} {x:Operand} {name:String} {axs:Array Operand} {ts:Array TypeId} {f:FuncId} {g:G} {V1:Vh} (ho:o.op= .call ⟨.invoke x name,axs,ts⟩) (hlo: ∀i,nx≤i→lo i) (he:BelE lo nx env)
  (h:ZmI T w env nx x name axs=some (f,g,V1,nx1)):(nx≤nx1∧VOk lo nx1 V1∧Bel lo nx1 g)∧ ∀(σ:Nm) (H:Heap) (K:D→Heap→Prop),(∀τ:Nm,(∀i,i<nx→τ i=σ i)→K (g.d τ) (Vn τ V1++H))→Op1 P o (evD (cE σ env)) H K:=by
 unfold ZmI at h
 split at h
 ·rename_i t g0 args hx has
  split at h
  ·rename_i f' hm
   split at h
   ·rename_i g' V' nx' hc
    cases h
    have hb:BelL lo nx (g0::args):=fun y hy=>by
     rcases z'v.1 hy with rfl|hy
     ·exact(x'F hx he).ifc_g
     ·exact Zcs he has y hy
    obtain⟨h1,h2⟩:=ZbA T hN hw hc hlo hb (fun b c hm=>by cases hm)
    refine⟨h1,fun σ H K hk=>?_⟩
    refine Op1.invoke (t:=t) (dv:=g0.d σ) ho (z'2 hx σ) hm (h2 σ) (by rw[Zb5 σ has];rfl) ?_
    rintro d H' ⟨σ',hag,rfl,rfl⟩
    exact hk σ' hag
   ·cases h
  ·cases h
 ·cases h
noncomputable def Zj4 {P:Program} (T:Tab P) (ow:Nat→G→Bool) (w:Gw) (env:Env) (V:Vh) (nx:Nat) (op:Op):Option (G×Vh×Nat):=match op with
 | .call ⟨.value xf,axs,ts⟩=>match gX env xf,gXs env axs.toList with
  |some (.fn f cs),some args=>match cs.all G.isV with
   |true=>match w.tab f (args++cs)with
    |some g=>some (g,V,nx)
    |none=>match Zed T w f (args++cs) V nx with
     |some (g,V1,nx1)=>ZmG (ow f g) g V1 nx1
     |none=>none
   |false=>none
  |_,_=>none
 | .call ⟨.invoke x name,axs,_⟩=>match ZmI T w env nx x name axs with
  |some (f,g,V1,nx1)=>ZmG (ow f g) g (V1++V) nx1
  |none=>none
 | .convert t u x=>match gX env x with
  |some gx=>match ZsR gx with
   |true=>match Zg4 T gx V t u with|some g=>some (g,V,nx)|none=>none
   |false=>gOp T env V nx (.convert t u x)
  |none=>none
 |op=>gOp T env V nx op
theorem ZdI {σ:Nm} {cs:List G} (hv:cs.all G.isV=true):(cs.map (G.v σ)).toArray.toList.map D.is=cs.map (G.d σ):=by
 rw[List.toList_toArray,List.map_map]
 exact y'N fun g hg=>(G.isV_d (z'l.1 hv g hg)).symm
theorem ZlC {P:Program} {ow:Nat→G→Bool} (T:Tab P) (hN:NamesOk P) {w:Gw} (hw:v'n P w) {o:Oper} {lo:Nat→Prop} {nx nx':Nat} {env:Env} {V V':Vh} {g:G} (hlo: ∀i,nx≤i→lo i) (hV:VOk lo nx V) (he:BelE lo nx env)
  (h:Zj4 T ow w env V nx o.op=some (g,V',nx')):w'C P o lo env V nx g V' nx':=by
 unfold Zj4 at h
 split at h
 ·rename_i xf axs ts ho
  split at h
  ·rename_i f cs args hf has
   split at h
   ·rename_i hv
    have hbf:=(x'F hf he).fn_l hv
    split at h
    ·rename_i g1 ht
     cases h
     obtain⟨q1,q2⟩:=hw.1 _ _ _ ht
     refine⟨⟨z'c _,hV,fun σ τ _=>q1 σ τ⟩,fun σ K hn hk=>?_⟩
     refine Op1.callG (Hp:=[]) (Hr:=Vn σ V) ho (z'2 hf σ) ?_ (q2 σ) (y't _) ?_
     ·rw[ZdI hv,Zb5 σ has,z'A]
     ·rintro d H' ⟨rfl,rfl⟩
      exact hk σ fun _ _=>rfl
    split at h
    case h_2=>cases h
    rename_i g1 V1 nx1 hcall
    refine Zly h ?_
    obtain⟨h1,h2⟩:=ZbA T hN hw hcall hlo (BelL.app (Zcs he has) hbf) hV
    refine⟨h1,fun σ K hn hk=>?_⟩
    refine Op1.callG (Hp:=Vn σ V) (Hr:=[]) ho (z'2 hf σ) ?_ (h2 σ) (by rw[z'u]) ?_
    ·rw[ZdI hv,Zb5 σ has,z'A]
    ·rintro d H' ⟨σ',hag,rfl,rfl⟩
     rw[z'u];exact hk σ' hag
   ·cases h
  ·cases h
 ·rename_i x name axs ts ho
  split at h
  ·rename_i fi g1 V1 nx1 hi
   refine Zly h ?_
   obtain⟨⟨a1,a2,a3⟩,a4⟩:=Zlz T hN hw ho hlo he hi
   refine⟨⟨a1,fun b c hm=>?_,a3⟩,fun σ K hn hk=>a4 σ _ K fun τ hag=>?_⟩
   ·rcases z'X.1 hm with hm|hm
    ·exact a2 b c hm
    ·exact hV.mono a1 b c hm
   ·have:=hk τ hag
    rw[Zjm,v'x hV (τ:=σ) fun i _ hi=>hag i hi]at this
    exact this
  ·cases h
 ·rename_i t u x ho
  split at h
  ·rename_i gx hx
   split at h
   ·split at h
    ·rename_i g1 hg
     cases h
     obtain⟨q1,q2⟩:=Ziy T ho hx hg
     exact⟨⟨z'c _,hV,q1⟩,fun σ K hn hk=>q2 σ K hn (hk σ fun _ _=>rfl)⟩
    ·cases h
   ·rw[←ho]at h;exact ZnW T hlo hV he h
  ·cases h
 ·exact ZnW T hlo hV he h
inductive DO where
 |v (f:Env→Option G)
 |m (f:Env→Vh→Nat→Option (G×Vh×Nat))
 |w
noncomputable def ZtY {P:Program} (T:Tab P):Op→DO
 | .move x=> .v fun env=>gX env x
 | .assign x=> .v fun env=>gX env x
 | .pick c a b=> .v fun env=>ZfF T env c a b
 | .binOp op t x y _=> .v fun env=>Zer T env op t x y
 | .unOp op _ x=> .v fun env=>ZfG T env op x
 | .fieldAddr t x f=> .v fun env=>Zbd T env t x f
 | .field t x f=> .v fun env=>Zeu T env t x f
 | .indexAddr t x i=> .v fun env=>Zbe T env t x i
 | .index t x i=> .v fun env=>Zev T env t x i
 | .extract x i=> .v fun env=>Zcn T env x i
 | .nilCheck x=> .v fun env=>ZbQ T env x
 | .build t ps=> .v fun env=>Zes T env t ps
 | .buildSlice t n ps=> .v fun env=>Zat T env t n ps
 | .slice t x lo hi mx=> .v fun env=>Zew T env t x lo hi mx
 | .makeInterface t x=> .v fun env=>v'A T env t x
 | .makeFunc fn first cs=> .v fun env=>ZbP T env fn first cs
 | .load t x=> .m fun env V nx=>match gX env x with
  |some a=>match Zeg (T.get t) a V with|some g=>some (g,V,nx)|none=>none
  |none=>none
 | .store t a x=> .m fun env V nx=>match gX env a,gX env x with
  |some a,some x=>Zhe (T.get t).known (T.get t).size a x V nx
  |_,_=>none
 |_=> .w
noncomputable def ZqC {P:Program} (T:Tab P) (ow:Nat→G→Bool) (w:Gw) (env:Env) (V:Vh) (nx:Nat) (op:Op):Option (G×Vh×Nat):=match ZtY T op with
 | .v f=>match f env with|some g=>some (g,V,nx)|none=>none
 | .m f=>f env V nx
 | .w=>Zj4 T ow w env V nx op
theorem Zpr {P:Program} (T:Tab P) (ow:Nat→G→Bool) (w:Gw) (env:Env) (V:Vh) (nx:Nat) (op:Op):ZqC T ow w env V nx op=Zj4 T ow w env V nx op:=by
 cases op<;>rfl
noncomputable def Zdt {R:Type} (n:Nat) (dst:Option Tmp) (g:G) (env:Env) (k:Env→Option R):Option R:=match dst with
 |none=>k env
 |some t=>match Nat.blt t n with|true=>gPl g fun g=>ZhO env t g k|false=>none
theorem Zjt (σ:Nm) {n:Nat} {env:Env} {t:Nat} (g:G) (hl:ELen n env) (h:t<n):cE σ (Zby env t g)=upd (cE σ env) t (g.d σ):=by
 funext k
 simp only[cE,upd,Zls hl h]
 by_cases e:t=k
 ·subst e;simp
 ·have:(t == k)=false:=by simpa using e
  rw[if_neg e,this,cond_false]
def Zm8 (env:Env) (dst:Option Tmp) (g:G):Env:=match dst with|none=>env|some t=>Zby env t g
theorem ZaY {R:Type} {n:Nat} {dst:Option Tmp} {g:G} {env:Env} {k:Env→Option R} {r:R} (h:Zdt n dst g env k=some r):(∀t,dst=some t→t<n)∧k (Zm8 env dst g)=some r:=by
 unfold Zdt at h
 split at h
 ·exact⟨fun t ht=>(by cases ht),h⟩
 ·split at h
  ·rename_i t hb
   rw[ZeZ,Zfw]at h
   exact⟨fun t' ht=>(by cases ht;exact z'F hb),h⟩
  ·cases h
theorem Zbp {σ:Nm} {n:Nat} {dst:Option Tmp} {g:G} {env:Env} (hd: ∀t,dst=some t→t<n) (hl:ELen n env):cE σ (Zm8 env dst g)=updO (cE σ env) dst (g.d σ):=by
 cases dst with
 |none=>rfl
 |some t=>exact Zjt σ g hl (hd t rfl)
theorem v'6 {n:Nat} {dst:Option Tmp} {g:G} {env:Env} (h:ELen n env):ELen n (Zm8 env dst g):=by
 cases dst with
 |none=>exact h
 |some t=>exact Zcy h t g
theorem v'5 {lo:Nat→Prop} {hi:Nat} {dst:Option Tmp} {g:G} {env:Env} (he:BelE lo hi env) (hg:Bel lo hi g):BelE lo hi (Zm8 env dst g):=by
 cases dst with
 |none=>exact he
 |some t=>exact Zd9 he t hg
noncomputable def Zjb {P:Program} (T:Tab P) (ow:Nat→G→Bool) (w:Gw) (n:Nat) (o:Oper) (s:Gs):Option Gs:=match ZqC T ow w s.env s.V s.nx o.op with
 |some (g,V,nx)=>Zdt n o.dst g s.env fun env=>some ⟨env,V,nx⟩
 |none=>none
noncomputable def ZqD (n:Nat) (o:Oper) (s:Gs):Option Gs:=Zdt n o.dst (.val undef) s.env fun env=>some ⟨env,s.V,s.nx⟩
def Zh9:Value→Bool
 | .tuple vs=>match vs.toList with|[]=>true|_=>false
 |_=>false
theorem ZmT {v:Value} (h:Zh9 v=true):v=undef:=by
 unfold Zh9 at h
 split at h
 ·rename_i vs
  split at h
  ·rename_i hv
   have:vs= #[]:=by rw[←Array.toList_inj];exact hv
   rw[this];rfl
  ·cases h
 ·cases h
noncomputable def ZcC (n:Nat) (ops:Array Oper) (o:Oper) (env:Env):Nat:=match o.guard with
 |none=>1
 |some (j,want)=>match (ops[j]?).bind (·.dst)with
  |some t=>match Nat.blt t n,eAt env t with
   |true,.bool b=>match b,want with|true,true=>1|false,false=>1|_,_=>2
   |true,.val v=>match Zh9 v with|true=>2|false=>0
   |_,_=>0
  |none=>0
theorem Zg6 {n:Nat} {ops:Array Oper} {o:Oper} {env:Env} (h:ZcC n ops o env=1):o.guard=none∨ ∃j want t,o.guard=some (j,want)∧(ops[j]?).bind (·.dst)=some t∧Nat.blt t n=true∧eAt env t= .bool want:=by
 unfold ZcC at h
 split at h
 ·rename_i hg;exact .inl hg
 ·rename_i j want hg
  split at h
  ·rename_i t hj
   split at h
   ·rename_i b hbl hat
    refine .inr ⟨j,want,t,hg,hj,hbl,?_⟩
    cases b<;>cases want<;>first|exact hat|cases h
   ·split at h<;>cases h
   ·cases h
  ·cases h
theorem Zf8 {n:Nat} {ops:Array Oper} {o:Oper} {env:Env} (h0: ¬ZcC n ops o env=0) (h1: ¬ZcC n ops o env=1):
  ∃j want t,o.guard=some (j,want)∧(ops[j]?).bind (·.dst)=some t∧Nat.blt t n=true∧(eAt env t= .bool (!want)∨eAt env t= .val undef):=by
 unfold ZcC at h0 h1
 split at h0
 ·rename_i hg;rw[hg]at h1;exact absurd rfl h1
 ·rename_i j want hg
  rw[hg]at h1
  simp only at h1
  split at h0
  ·rename_i t hj
   rw[hj]at h1
   simp only at h1
   split at h0
   ·rename_i b hbl hat
    rw[hbl,hat]at h1
    refine⟨j,want,t,hg,hj,hbl,.inl ?_⟩
    cases b<;>cases want<;>first|exact hat|exact absurd rfl h1
   ·rename_i v hbl hat
    split at h0
    ·rename_i hu;exact⟨j,want,t,hg,hj,hbl,.inr (by rw[hat,ZmT hu])⟩
    ·exact absurd rfl h0
   ·exact absurd rfl h0
  ·exact absurd rfl h0
noncomputable def ZmN {P:Program} (T:Tab P) (ow:Nat→G→Bool) (w:Gw) (n:Nat) (ops:Array Oper):List Oper→Gs→Option Gs
 |[],s=>some s
 |o::r,s=>match (match ZcC n ops o s.env with|0=>none|1=>Zjb T ow w n o s|_=>ZqD n o s)with
  |some s'=>ZmN T ow w n ops r s'
  |none=>none
theorem VCo.nodup' {P:Program} {n:Nat} {ops:Array Oper} {l:List Oper} {s:St} {Q:Exit→St→Prop} (h:s.heap.blocks.Nodup→VCo P n ops l s Q):VCo P n ops l s Q:=fun x a w hn hs=>h hs.inv.nodup x a w hn hs
theorem Zjy {n:Nat} {o:Oper} (h: ∀t,o.dst=some t→t<n):x'K n o=true:=by
 unfold x'K
 split
 ·rename_i d hd;exact Nat.ble_eq▸h d hd
 ·rfl
theorem Zkc {P:Program} {ow:Nat→G→Bool} (T:Tab P) (hN:NamesOk P) {w:Gw} (hw:v'n P w) {lo:Nat→Prop} {n:Nat} {o:Oper} {s s':Gs} (h:Zjb T ow w n o s=some s') (hs:GOk lo n s):(s.nx≤s'.nx∧GOk lo n s')∧x'K n o=true∧
  ∀(σ:Nm) (K:St→Prop),(Vn σ s.V).blocks.Nodup→(∀σ':Nm,(∀i,i<s.nx→σ' i=σ i)→K (s'.st σ'))→Op1 P o (evD (cE σ s.env)) (Vn σ s.V) (fun d H=>K (St.put (s.st σ) o.dst d H)):=by
 unfold Zjb at h
 rw[Zpr]at h
 split at h
 ·rename_i g V nx hg
  obtain⟨hd,h⟩:=ZaY h
  cases h
  obtain⟨⟨h1,h2,h3⟩,h4⟩:=ZlC T hN hw hs.up hs.V hs.env hg
  refine⟨⟨h1,⟨v'6 hs.len,fun i hi=>hs.up i (y'b h1 hi),v'5 (hs.env.mono h1) h3,h2⟩⟩,Zjy hd,fun σ K hn hk=>h4 σ _ hn fun σ' hag=>?_⟩
  have:=hk σ' hag
  simp only[Gs.st,Zbp hd hs.len]at this
  rw[Zjs hs.env (τ:=σ) fun i _ hi=>hag i hi]at this
  exact this
 ·cases h
theorem Zpw {lo:Nat→Prop} {n:Nat} {o:Oper} {s s':Gs} (h:ZqD n o s=some s') (hs:GOk lo n s):s.nx=s'.nx∧GOk lo n s'∧x'K n o=true∧ ∀σ:Nm,s'.st σ=⟨updO (cE σ s.env) o.dst (.is undef),Vn σ s.V⟩:=by
 obtain⟨hd,h⟩:=ZaY h
 cases h
 exact⟨rfl,⟨v'6 hs.len,hs.up,v'5 hs.env Bel.val,hs.V⟩,Zjy hd,fun σ=>by simp only[Gs.st,Zbp hd hs.len];rfl⟩
theorem Zh1 {P:Program} {ow:Nat→G→Bool} (T:Tab P) (hN:NamesOk P) {w:Gw} (hw:v'n P w) {lo:Nat→Prop} {n:Nat} {ops:Array Oper}: ∀{l:List Oper} {s s':Gs},ZmN T ow w n ops l s=some s'→GOk lo n s→
  (s.nx≤s'.nx∧GOk lo n s')∧ ∀(σ:Nm) (Q:Exit→St→Prop),(∀σ':Nm,(∀i,i<s.nx→σ' i=σ i)→Q .normal (s'.st σ'))→VCo P n ops l (s.st σ) Q
 |[],s,s',h,hs=>by
  cases h
  exact⟨⟨z'c _,hs⟩,fun σ Q hq=>VCo.nil (hq σ fun _ _=>rfl)⟩
 |o::r,s,s',h,hs=>by
  unfold ZmN at h
  split at h
  ·rename_i s1 h1
   split at h1
   ·cases h1
   ·rename_i hg
    obtain⟨⟨a1,a2⟩,a3,a4⟩:=Zkc T hN hw h1 hs
    obtain⟨⟨b1,b2⟩,b3⟩:=Zh1 T hN hw h a2
    refine⟨⟨y'b a1 b1,b2⟩,fun σ Q hq=>VCo.nodup' fun hn=>?_⟩
    have run: ∀K:St→Prop,(∀s,VCo P n ops r s Q→K s)→Op1 P o (evD (s.st σ).env) (s.st σ).heap (fun d H=>K ((s.st σ).put o.dst d H)):=fun K hK=>
     a4 σ K hn fun σ' hag=>hK _ (b3 σ' Q fun σ'' hag'=>hq σ'' fun i hi=>(hag' i (z'N hi a1)).trans (hag i hi))
    rcases Zg6 hg with hgu|⟨j,want,t,hgu,hj,hbl,hat⟩
    ·exact VCo.cons hgu a3 run
    ·have ht:(s.st σ).env t= .is (.bool want):=by show cE σ s.env t=_;rw[Zfv,hat];rfl
     refine VCo.guard hgu hj hbl a3 ht (z'j (fun hb=>?_) (fun hb=>?_))
     ·subst hb
      rw[w'Z ht]
      exact VCr.run a3 run
     ·subst hb
      rw[w'Z ht]
      exact VCr.run a3 run
   ·rename_i hg0 hg1
    obtain⟨a1,a2,a3,a4⟩:=Zpw h1 hs
    obtain⟨⟨b1,b2⟩,b3⟩:=Zh1 T hN hw h a2
    refine⟨⟨a1▸b1,b2⟩,fun σ Q hq=>?_⟩
    have run:VCo P n ops r ⟨updO (cE σ s.env) o.dst (.is undef),Vn σ s.V⟩ Q:=by
     rw[←a4 σ]
     exact b3 σ Q fun σ' hag=>hq σ' fun i hi=>hag i (a1▸hi)
    obtain⟨j,want,t,hgu,hj,hbl,hat⟩:=Zf8 hg0 hg1
    rcases hat with hat|hat
    ·have ht:(s.st σ).env t= .is (.bool (!want)):=by show cE σ s.env t=_;rw[Zfv,hat];rfl
     refine VCo.guard hgu hj hbl a3 ht (z'j (fun hb=>?_) (fun hb=>?_))
     ·cases want with
      |true=>cases hb
      |false=>
       rw[show upd (s.st σ).env t (.is (.bool true))=(s.st σ).env from w'Z ht]
       exact run
     ·cases want with
      |true=>
       rw[show upd (s.st σ).env t (.is (.bool false))=(s.st σ).env from w'Z ht]
       exact run
      |false=>cases hb
    ·have ht:(s.st σ).env t= .is undef:=by show cE σ s.env t=_;rw[Zfv,hat];rfl
     exact VCo.gundef hgu hj hbl a3 ht run
  ·cases h
end Go.Vc
