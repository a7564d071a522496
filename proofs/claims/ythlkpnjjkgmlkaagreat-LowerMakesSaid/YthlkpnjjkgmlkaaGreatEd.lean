/- Calls at fixed data, reckoned out: operations upon memory. No condition. -/
import Derived.Test.YthlkpnjjkgmlkaaGreatEc
import Derived.Test.YthlkpnjjkgmlkaaGreatZh
namespace Go.Vc
set_option linter.unusedSimpArgs false
set_option linter.unusedVariables false
open Go
inductive GK where
 |i (n:Int)
 |s (l:List UInt8)
def GK.v:GK→Value
 | .i n=> .int .i64 n
 | .s l=> .string (x'R l)
def dv:D→Value
 | .is v=>v
 |_=>undef
abbrev Zdr:=List (GK×G×Nat)
def ZaD (σ:Nm) (e:GK×G×Nat):MapEntry:={key:=e.1.v,val:=dv (e.2.1.d σ),born:=e.2.2}
def v'p (σ:Nm) (es:Zdr):Array MapEntry:=(es.map (ZaD σ)).toArray
inductive VB where
 |fix (ty n:Nat) (l:List G)
 |gro (e esz:Nat) (l:List G)
 |mp (es:Zdr) (c:Nat)
 |it (s:List UInt8) (p:Nat)
abbrev Vh:=List (Nat×VB)
def VB.l:VB→List G
 | .fix _ _ l=>l
 | .gro _ _ l=>l
 | .mp es _=>es.map (·.2.1)
 | .it .. =>[]
def VB.isC:VB→Bool
 | .mp .. =>false
 | .it .. =>false
 |_=>true
def VB.put (l:List G):VB→VB
 | .fix ty n _=> .fix ty n l
 | .gro e esz _=> .gro e esz l
 | .mp es c=> .mp es c
 | .it s p=> .it s p
def VB.c (σ:Nm) (b:Nat):VB→HC
 | .fix ty n l=> .cells ty n (l.map (G.d σ))
 | .gro e esz l=> .cells e ((σ b).2*esz) (l.map (G.d σ))
 | .mp es c=> .obj (.map (v'p σ es) c)
 | .it s p=> .iter (x'R s) p
theorem VB.c_cells (σ:Nm) (b:Nat) (c:VB) (h:c.isC=true): ∃ty n, ∀l,(c.put l).c σ b= .cells ty n (l.map (G.d σ)):=by
 cases c with
 |fix ty n l=>exact⟨ty,n,fun _=>rfl⟩
 |gro e esz l=>exact⟨e,_,fun _=>rfl⟩
 |mp es c=>cases h
 |it s p=>cases h
theorem VB.put_c {c:VB} (h:c.isC=true) (l:List G):(c.put l).l=l:=by cases c<;>first|rfl|cases h
theorem VB.put_l (c:VB):c.put c.l=c:=by cases c<;>rfl
def Vn (σ:Nm) (V:Vh):Heap:=V.map fun p=>((σ p.1).1,p.2.c σ p.1)
theorem Zbu (σ:Nm) (b:Nat) (c:VB) (V:Vh):Vn σ ((b,c)::V)=((σ b).1,c.c σ b)::Vn σ V:=rfl
theorem Zjm (σ:Nm) (V W:Vh):Vn σ (V++W)=Vn σ V++Vn σ W:=z'A
def VOk (lo:Nat→Prop) (hi:Nat) (V:Vh):Prop:= ∀b c,(b,c)∈V→lo b∧b<hi∧BelL lo hi c.l
theorem VOk.mono {lo:Nat→Prop} {hi hi':Nat} {V:Vh} (h:VOk lo hi V) (k:hi≤hi'):VOk lo hi' V:=fun b c hm=>by
 obtain⟨h1,h2,h3⟩:=h b c hm
 exact⟨h1,z'N h2 k,fun g hg=>(h3 g hg).mono (fun _ _ h=>h) k⟩
theorem BelL.mono {lo:Nat→Prop} {hi hi':Nat} {l:List G} (h:BelL lo hi l) (k:hi≤hi'):BelL lo hi' l:=fun g hg=>(h g hg).mono (fun _ _ h=>h) k
theorem VB.c_congr {lo:Nat→Prop} {hi b:Nat} {c:VB} (h1:lo b) (h2:b<hi) (h:BelL lo hi c.l) {σ τ:Nm} (k: ∀i,lo i→i<hi→σ i=τ i):c.c σ b=c.c τ b:=by
 have:c.l.map (G.d σ)=c.l.map (G.d τ):=y'N fun g hg=>h g hg σ τ k
 cases c with
 |fix ty n l=>simp only[VB.c];rw[show l.map (G.d σ)=l.map (G.d τ) from this]
 |gro e esz l=>simp only[VB.c];rw[show l.map (G.d σ)=l.map (G.d τ) from this,k b h1 h2]
 |mp es c=>
  have e:es.map (ZaD σ)=es.map (ZaD τ):=y'N fun x hx=>by
   have h1:x.2.1∈VB.l (.mp es c):=z'w.2 ⟨x,hx,rfl⟩
   simp only[ZaD,h x.2.1 h1 σ τ k]
  simp only[VB.c,v'p,e]
 |it s p=>rfl
theorem v'x {lo:Nat→Prop} {hi:Nat} {V:Vh} (h:VOk lo hi V) {σ τ:Nm} (k: ∀i,lo i→i<hi→σ i=τ i):Vn σ V=Vn τ V:=
 y'N fun p hp=>by
  obtain⟨h1,h2,h3⟩:=h p.1 p.2 hp
  rw[VB.c_congr h1 h2 h3 k,k _ h1 h2]
theorem Zjs {lo:Nat→Prop} {hi:Nat} {env:Env} (h:BelE lo hi env) {σ τ:Nm} (k: ∀i,lo i→i<hi→σ i=τ i):cE σ env=cE τ env:=by
 funext t
 exact ZhN h t σ τ k
noncomputable def v'R (V:Vh):Nat→Option VB:=List.rec (fun _=>none) (fun p _ ih b=>match Nat.beq p.1 b with|true=>some p.2|false=>ih b) V
theorem ZeJ (p:Nat×VB) (V:Vh) (b:Nat):v'R (p::V) b=match Nat.beq p.1 b with|true=>some p.2|false=>v'R V b:=rfl
theorem v'w: ∀{V:Vh} {b:Nat} {c:VB},v'R V b=some c→(b,c)∈V
 |[],b,c,h=>by cases h
 |p::V,b,c,h=>by
  rw[ZeJ]at h
  split at h
  ·rename_i hb
   cases h
   have:=z's hb
   subst this
   exact z't ..
  ·exact z'o _ (v'w h)
def ZdC:Vh→Nat→VB→Vh
 |[],_,_=>[]
 |p::V,b,c=>match Nat.beq p.1 b with|true=>(b,c)::V|false=>p::ZdC V b c
noncomputable def Zdq {R:Type} (V:Vh):Nat→VB→(Vh→R)→R:=List.rec (fun _ _ k=>k []) (fun p V ih b c k=>match Nat.beq p.1 b with|true=>k ((b,c)::V)|false=>ih b c fun W=>k (p::W)) V
theorem ZaN {R:Type}: ∀(V:Vh) (b:Nat) (c:VB) (k:Vh→R),Zdq V b c k=k (ZdC V b c)
 |[],b,c,k=>rfl
 |p::V,b,c,k=>by
  show(match Nat.beq p.1 b with|true=>k ((b,c)::V)|false=>Zdq V b c fun W=>k (p::W))=_
  rw[ZdC]
  cases Nat.beq p.1 b with
  |true=>rfl
  |false=>exact ZaN V b c _
def ZcX:Vh→Nat→Vh
 |[],_=>[]
 |p::V,b=>match Nat.beq p.1 b with|true=>V|false=>p::ZcX V b
noncomputable def Znl {R:Type} (V:Vh):Nat→(Vh→R)→R:=List.rec (fun _ k=>k []) (fun p V ih b k=>match Nat.beq p.1 b with|true=>k V|false=>ih b fun W=>k (p::W)) V
theorem Zk0 {R:Type}: ∀(V:Vh) (b:Nat) (k:Vh→R),Znl V b k=k (ZcX V b)
 |[],b,k=>rfl
 |p::V,b,k=>by
  show(match Nat.beq p.1 b with|true=>k V|false=>Znl V b fun W=>k (p::W))=_
  rw[ZcX]
  cases Nat.beq p.1 b with
  |true=>rfl
  |false=>exact Zk0 V b _
theorem Zk1: ∀(V:Vh) (b:Nat),(ZcX V b).Sublist V
 |[],b=>z'n _
 |p::V,b=>by
  rw[ZcX]
  split
  ·exact z'I ..
  ·exact(Zk1 V b).cons_cons _
theorem ZhK (σ:Nm): ∀{V:Vh} {b:Nat} {c:VB},v'R V b=some c→(Vn σ V).Perm (((σ b).1,c.c σ b)::Vn σ (ZcX V b))
 |[],b,c,h=>by cases h
 |p::V,b,c,h=>by
  rw[ZeJ]at h
  rw[ZcX]
  split at h
  ·rename_i hb
   cases h
   have:=z's hb
   subst this
   exact y't _
  ·rename_i hb
   exact((ZhK σ h).cons _).trans (List.Perm.swap ..)
theorem ZcY {lo:Nat→Prop} {hi:Nat} {V:Vh} {b:Nat} {c c':VB} (h:VOk lo hi V) (hg:v'R V b=some c) (hc:BelL lo hi c'.l):VOk lo hi (ZdC V b c'):=by
 obtain⟨h1,h2,_⟩:=h b c (v'w hg)
 have key: ∀W:Vh,(∀k x,(k,x)∈W→(k,x)∈V)→ ∀k x,(k,x)∈ZdC W b c'→(k=b∧x=c')∨(k,x)∈V:=by
  intro W
  induction W with
  |nil=>intro _ k x hx;cases hx
  |cons p W ih=>
   intro hW k x hx
   rw[ZdC]at hx
   split at hx
   ·rcases z'v.1 hx with hx|hx
    ·cases hx;exact .inl ⟨rfl,rfl⟩
    ·exact .inr (hW k x (z'o _ hx))
   ·rcases z'v.1 hx with hx|hx
    ·exact .inr (hW k x (hx▸z't ..))
    ·exact ih (fun k x hk=>hW k x (z'o _ hk)) k x hx
 intro k x hx
 rcases key V (fun _ _ h=>h) k x hx with⟨rfl,rfl⟩|hm
 ·exact⟨h1,h2,hc⟩
 ·exact h k x hm
theorem Zr5 {lo:Nat→Prop} {hi:Nat} {V:Vh} {b:Nat} (h:VOk lo hi V):VOk lo hi (ZcX V b):=fun k x hx=>h k x ((Zk1 V b).subset hx)
theorem v'u (σ:Nm) (V:Vh):(Vn σ V).blocks=V.map fun p=>(σ p.1).1:=by simp[Vn,Heap.blocks]
theorem w'l {σ:Nm} {V:Vh} {b:Nat} {c:VB} (hn:(Vn σ V).blocks.Nodup) (h:v'R V b=some c):y'V (Vn σ V) (σ b).1=some (c.c σ b):=
 Zdw hn (z'w.2 ⟨(b,c),v'w h,rfl⟩)
theorem Zag {σ:Nm} {b:Nat} {c':VB}: ∀{V:Vh} {c:VB},(Vn σ V).blocks.Nodup→v'R V b=some c→hset (Vn σ V) (σ b).1 (c'.c σ b)=Vn σ (ZdC V b c')
 |[],c,_,h=>by cases h
 |p::V,c,hn,h=>by
  rw[ZeJ]at h
  rw[ZdC]
  split at h
  ·rename_i hb
   have:=z's hb
   subst this
   exact hset_eq
  ·rename_i hb
   have hm:=v'w h
   have hne: ¬(σ p.1).1=(σ b).1:=fun e=>by
    rw[v'u,z'p,y'O]at hn
    exact hn.1 (e▸z'w.2 ⟨(b,c),hm,rfl⟩)
   show hset (((σ p.1).1,p.2.c σ p.1)::Vn σ V) _ _=_
   rw[hset_ne hne,Zag (V:=V) (c:=c) ?_ h]
   ·rfl
   ·rw[v'u,z'p,y'O]at hn
    rw[v'u];exact hn.2
noncomputable def v'Q (V:Vh) (b:Nat):Option VB:=match v'R V b with
 |some c=>match c.isC with|true=>some c|false=>none
 |none=>none
theorem Zd2 {V:Vh} {b:Nat} {c:VB} (h:v'Q V b=some c):v'R V b=some c∧c.isC=true:=by
 unfold v'Q at h
 split at h
 ·rename_i c1 h1
  split at h
  ·rename_i h2;cases h;exact⟨h1,h2⟩
  ·cases h
 ·cases h
theorem w'0 {V:Vh} {b:Nat} {c:VB} (h:v'Q V b=some c):c.isC=true:=(Zd2 h).2
theorem v'h {V:Vh} {b:Nat} {c:VB} (h:v'Q V b=some c):(b,c)∈V:=v'w (Zd2 h).1
theorem ZoS (σ:Nm) {V:Vh} {b:Nat} {c:VB} (h:v'Q V b=some c):(Vn σ V).Perm (((σ b).1,c.c σ b)::Vn σ (ZcX V b)):=ZhK σ (Zd2 h).1
theorem Zmj {lo:Nat→Prop} {hi:Nat} {V:Vh} {b:Nat} {c c':VB} (h:VOk lo hi V) (hg:v'Q V b=some c) (hc:BelL lo hi c'.l):VOk lo hi (ZdC V b c'):=ZcY h (Zd2 hg).1 hc
theorem w'y {σ:Nm} {V:Vh} {b:Nat} {c:VB} (hn:(Vn σ V).blocks.Nodup) (h:v'Q V b=some c):y'V (Vn σ V) (σ b).1=some (c.c σ b):=w'l hn (Zd2 h).1
theorem ZiZ {σ:Nm} {b:Nat} {c':VB} {V:Vh} {c:VB} (hn:(Vn σ V).blocks.Nodup) (h:v'Q V b=some c):hset (Vn σ V) (σ b).1 (c'.c σ b)=Vn σ (ZdC V b c'):=Zag hn (Zd2 h).1
noncomputable def ZfW (V:Vh) (b:Nat):Option (Zdr×Nat):=match v'R V b with
 |some (.mp es c)=>some (es,c)
 |_=>none
theorem ZfX {V:Vh} {b c:Nat} {es:Zdr} (h:ZfW V b=some (es,c)):v'R V b=some (.mp es c):=by
 unfold ZfW at h
 split at h
 ·rename_i h1;cases h;exact h1
 ·cases h
noncomputable def Zeg (ty:TyI) (a:G) (V:Vh):Option G:=match ty.known with
 |false=>none
 |true=>match a with
  | .ptr b o=>match v'Q V b with
   |some c=>match ty.agg with
    |true=>match Nat.ble (o+ty.size) c.l.length with|true=>some (.agg ((c.l.drop o).take ty.size))|false=>none
    |false=>gIx c.l o
   |none=>none
  | .pt row=>match ty.agg with
   |true=>match Nat.ble ty.size row.length with|true=>some (.agg (row.take ty.size))|false=>none
   |false=>gIx row 0
  |_=>none
theorem ZjW {ty:TyI} {a g:G} {V:Vh} (h:Zeg ty a V=some g) {σ:Nm} (hn:(Vn σ V).blocks.Nodup) {K:D→Prop} (hk:K (g.d σ)):cLoad ty (a.d σ) (Vn σ V) K:=by
 unfold Zeg at h
 unfold cLoad
 split at h
 ·cases h
 ·rename_i hkn
  rw[hkn]
  split at h
  ·rename_i b o
   split at h
   ·rename_i c hc
    have hg:=w'y hn hc
    obtain⟨ty',n',hcc⟩:=VB.c_cells σ b c (w'0 hc)
    have hcc':=hcc c.l
    rw[VB.put_l]at hcc'
    simp only[G.d,hg,hcc']
    split at h
    ·rename_i ha
     split at h
     ·rename_i hb
      cases h
      rw[ha]
      simp only[z'i]
      exact⟨z'F hb,by rw[←List.map_drop, ←List.map_take, ←G.dl_eq];exact hk⟩
     ·cases h
    ·rename_i ha
     rw[ha]
     rw[w'T]at h
     exact⟨g.d σ,by rw[z'K,h];rfl,hk⟩
   ·cases h
  ·rename_i row
   simp only[G.d,G.dl_eq]
   split at h
   ·rename_i ha
    split at h
    ·rename_i hb
     cases h
     rw[ha]
     simp only[z'i]
     exact⟨z'F hb,by rw[←List.map_take, ←G.dl_eq];exact hk⟩
    ·cases h
   ·rename_i ha
    rw[ha]
    rw[w'T]at h
    exact⟨g.d σ,by rw[z'K,h];rfl,hk⟩
  ·cases h
theorem Ziz {ty:TyI} {a g:G} {V:Vh} (h:Zeg ty a V=some g) {lo:Nat→Prop} {hi:Nat} (ha:Bel lo hi a) (hV:VOk lo hi V):Bel lo hi g:=by
 unfold Zeg at h
 split at h
 ·cases h
 ·split at h
  ·split at h
   ·rename_i c hc
    have hb:=(hV _ _ (v'h hc)).2.2
    split at h
    ·split at h
     ·cases h;exact Bel.agg ((hb.drop _).take _)
     ·cases h
    ·rw[w'T]at h;exact hb.at h
   ·cases h
  ·split at h
   ·split at h
    ·cases h;exact Bel.agg (ha.pt_l.take _)
    ·cases h
   ·rw[w'T]at h;exact ha.pt_l.at h
  ·cases h
def w'C (P:Program) (o:Oper) (lo:Nat→Prop) (env:Env) (V:Vh) (nx:Nat) (g:G) (V':Vh) (nx':Nat):Prop:=
 (nx≤nx'∧VOk lo nx' V'∧Bel lo nx' g)∧ ∀(σ:Nm) (K:D→Heap→Prop),(Vn σ V).blocks.Nodup→(∀σ':Nm,(∀i,i<nx→σ' i=σ i)→K (g.d σ') (Vn σ' V'))→Op1 P o (evD (cE σ env)) (Vn σ V) K
def nm1 (σ:Nm) (nx:Nat) (p:Nat×Nat):Nm:=fun i=>bif Nat.beq i nx then p else σ i
theorem v'q {σ:Nm} {nx:Nat} {p:Nat×Nat}: ∀i,i<nx→nm1 σ nx p i=σ i:=fun i h=>by
 have:Nat.beq i nx=false:=by
  rw[←Bool.not_eq_true];intro hb;have:=z's hb;omega
 simp only[nm1,this,cond_false]
theorem Zfe {σ:Nm} {nx:Nat} {p:Nat×Nat}:nm1 σ nx p nx=p:=by
 simp only[nm1,w'6,cond_true]
theorem VOk.cons {lo:Nat→Prop} {hi b:Nat} {c:VB} {V:Vh} (h:VOk lo hi V) (h1:lo b) (h2:b<hi) (h3:BelL lo hi c.l):VOk lo hi ((b,c)::V):=fun k x hx=>by
 rcases z'v.1 hx with hx|hx
 ·cases hx;exact⟨h1,h2,h3⟩
 ·exact h k x hx
theorem BelL.dls {lo:Nat→Prop} {hi:Nat} {l:List G} (h:BelL lo hi l) {σ τ:Nm} (k: ∀i,lo i→i<hi→σ i=τ i):l.map (G.d σ)=l.map (G.d τ):=y'N fun g hg=>h g hg σ τ k
noncomputable def ZeR (t:TypeId) (ty:TyI) (V:Vh) (nx:Nat):Option (G×Vh×Nat):=match ty.known with
 |false=>none
 |true=>match ZbR ty.zero with
  |some z=>match z.all Zek with|true=>some (.ptr nx 0,(nx,.fix t z.length z)::V,nx+1)|false=>none
  |none=>none
noncomputable def ZjM (t:TypeId) (x:G) (V:Vh) (nx:Nat):Option (G×Vh×Nat):=match ZeT x with
 |some l=>match l.all Zek with|true=>some (.ptr nx 0,(nx,.fix t l.length l)::V,nx+1)|false=>none
 |none=>none
theorem Zoa {P:Program} {o:Oper} {lo:Nat→Prop} {nx:Nat} {env:Env} {V:Vh} {t:TypeId} {l:List G} (hlo: ∀i,nx≤i→lo i) (hV:VOk lo nx V) (hl:BelL lo nx l)
  (h: ∀(σ:Nm) (K:D→Heap→Prop),(∀b,b∉(Vn σ V).blocks→K (.is (.pointer (some ⟨b,0,none⟩))) ((b,.cells t l.length (l.map (G.d σ)))::Vn σ V))→Op1 P o (evD (cE σ env)) (Vn σ V) K):
  w'C P o lo env V nx (.ptr nx 0) ((nx,.fix t l.length l)::V) (nx+1):=by
 refine⟨⟨Nat.le_succ _,(hV.mono (Nat.le_succ _)).cons (hlo _ (z'c _)) (Nat.lt_succ_self _) (hl.mono (Nat.le_succ _)),Bel.ptr (hlo _ (z'c _)) (Nat.lt_succ_self _)⟩,fun σ K hn hk=>h σ K fun b hb=>?_⟩
 have:=hk (nm1 σ nx (b,0)) v'q
 have e1:Vn (nm1 σ nx (b,0)) V=Vn σ V:=v'x hV fun i _ hi=>v'q i hi
 have e2:l.map (G.d (nm1 σ nx (b,0)))=l.map (G.d σ):=hl.dls fun i _ hi=>v'q i hi
 simpa only[G.d,Zbu,Zfe,VB.c,e1,e2]using this
theorem Zix {P:Program} (T:Tab P) {o:Oper} {lo:Nat→Prop} {nx nx':Nat} {env:Env} {V V':Vh} {t:TypeId} {g:G} (ho:o.op= .alloc t) (hlo: ∀i,nx≤i→lo i) (hV:VOk lo nx V)
  (h:ZeR t (T.get t) V nx=some (g,V',nx')):w'C P o lo env V nx g V' nx':=by
 unfold ZeR at h
 split at h
 ·cases h
 ·rename_i hk
  split at h
  ·rename_i z hz
   split at h
   ·rename_i ha
    cases h
    refine Zoa hlo hV (ZaZ hz) fun σ K hK=>Zl0 T ho ?_
    have e:=ZbE hz σ
    have el:(T.get t).zero.length=z.length:=by have:=congrArg List.length e;simpa using this
    simp only[cAlloc,hk,e,el]
    exact⟨ZaF ha σ,hK⟩
   ·cases h
  ·cases h
theorem Zlu {P:Program} {o:Oper} {lo:Nat→Prop} {nx nx':Nat} {env:Env} {V V':Vh} {t:TypeId} {x:Operand} {gx g:G} (ho:o.op= .box t x) (hlo: ∀i,nx≤i→lo i) (hV:VOk lo nx V) (he:BelE lo nx env) (hx:gX env x=some gx)
  (h:ZjM t gx V nx=some (g,V',nx')):w'C P o lo env V nx g V' nx':=by
 unfold ZjM at h
 split at h
 ·rename_i l hl
  split at h
  ·rename_i ha
   cases h
   refine Zoa hlo hV (Zee hl (x'F hx he)) fun σ K hK=>ZqM ho ?_
   rw[z'2 hx]
   simp only[cBox,ZeU hl σ,z'i]
   exact⟨ZaF ha σ,hK⟩
  ·cases h
 ·cases h
noncomputable def Zhe (known:Bool) (sz:Nat) (a x:G) (V:Vh) (nx:Nat):Option (G×Vh×Nat):=match known with
 |false=>none
 |true=>match a,ZeT x with
  | .ptr b o,some c=>match v'Q V b with
   |some bl=>match c.all Zek&&(Nat.beq c.length sz&&Nat.ble (o+sz) bl.l.length)with
    |true=>v'z (Zep bl.l o c) fun l=>Zdq V b (bl.put l) fun V'=>some (.val undef,V',nx)
    |false=>none
   |none=>none
  |_,_=>none
theorem Zn0 {P:Program} (T:Tab P) {o:Oper} {lo:Nat→Prop} {nx nx':Nat} {env:Env} {V V':Vh} {t:TypeId} {a x:Operand} {ga gx g:G} (ho:o.op= .store t a x) (hV:VOk lo nx V) (he:BelE lo nx env) (ha:gX env a=some ga)
  (hx:gX env x=some gx) (h:Zhe (T.get t).known (T.get t).size ga gx V nx=some (g,V',nx')):w'C P o lo env V nx g V' nx':=by
 unfold Zhe at h
 split at h
 ·cases h
 ·rename_i hk
  split at h
  ·rename_i b off c hc
   split at h
   ·rename_i bl hbl
    split at h
    ·rename_i hb
     simp only[x'S,ZaN,z'L,Prod.mk.injEq]at h
     obtain⟨rfl,rfl,rfl⟩:=h
     rw[z'd,z'd]at hb
     obtain⟨h1,h2,h3⟩:=hb
     have hbel:=(hV _ _ (v'h hbl)).2.2
     have hcb:=Zee hc (x'F hx he)
     have hput: ∀l,(bl.put l).l=l:=VB.put_c (w'0 hbl)
     refine⟨⟨z'c _,Zmj hV hbl (by rw[hput];exact Zdc _ _ _ hbel hcb),Bel.val⟩,fun σ K hn hk'=>Zl8 T ho hk ?_⟩
     rw[z'2 ha,z'2 hx]
     obtain⟨ty',n',hcc⟩:=VB.c_cells σ b bl (w'0 hbl)
     have hcc':=hcc bl.l
     rw[VB.put_l]at hcc'
     simp only[G.d,cStore,ZeU hc σ,w'y hn hbl,hcc',z'i]
     refine⟨⟨ZaF h1 σ,z's h2,z'F h3⟩,?_⟩
     rw[Zeq, ←hcc,ZiZ hn hbl]
     exact hk' σ fun _ _=>rfl
    ·cases h
   ·cases h
  ·cases h
noncomputable def Zg8 (kd:Kd) (l c:G) (V:Vh) (nx:Nat):Option (G×Vh×Nat):=match kd,l,c with
 | .slice e esz eb _ ez,.int _ (.ofNat a),.int _ (.ofNat b)=>match Nat.beq a b&&(Nat.ble (a*eb) 281474976710656&&Nat.ble a 9223372036854775807),ZbR ez with
  |true,some z=>match z.all Zek with
   |true=>v'z (List.replicate a z).flatten fun l=>some (.own nx a,(nx,.gro e esz l)::V,nx+1)
   |false=>none
  |_,_=>none
 |_,_,_=>none
theorem ZjX {P:Program} (T:Tab P) {o:Oper} {lo:Nat→Prop} {nx nx':Nat} {env:Env} {V V':Vh} {t:TypeId} {l c:Operand} {gl gc g:G} (ho:o.op= .makeSlice t l c) (hlo: ∀i,nx≤i→lo i) (hV:VOk lo nx V) (h1:gX env l=some gl)
  (h2:gX env c=some gc) (h:Zg8 (kdT (T.get t)) gl gc V nx=some (g,V',nx')):w'C P o lo env V nx g V' nx':=by
 unfold Zg8 at h
 split at h
 ·rename_i e esz eb ea ez k1 a k2 b hkd
  split at h
  ·rename_i z hb hz
   split at h
   ·rename_i ha
    simp only[x'S,z'L,Prod.mk.injEq]at h
    obtain⟨rfl,rfl,rfl⟩:=h
    rw[z'd,z'd]at hb
    obtain⟨b1,b2,b3⟩:=hb
    obtain rfl:=z's b1
    have hzb:BelL lo nx (List.replicate a z).flatten:=fun g hg=>by
     obtain⟨r,hr,hg⟩:=List.mem_flatten.1 hg
     exact ZaZ hz g ((List.mem_replicate.1 hr).2▸hg)
    refine⟨⟨Nat.le_succ _,(hV.mono (Nat.le_succ _)).cons (hlo _ (z'c _)) (Nat.lt_succ_self _) (hzb.mono (Nat.le_succ _)),Bel.own (hlo _ (z'c _)) (Nat.lt_succ_self _)⟩,fun σ K hn hk=>Zou T ho ?_⟩
    rw[z'2 h1,z'2 h2,hkd]
    have ez':=ZbE hz σ
    simp only[G.d,cMake,Int.ofNat_eq_natCast,z'b,ez']
    refine⟨⟨by omega,trivial,z'F b2,by have:=z'F b3;omega,ZaF ha σ⟩,fun k hkH=>?_⟩
    have:=hk (nm1 σ nx (k,a)) v'q
    have e1:Vn (nm1 σ nx (k,a)) V=Vn σ V:=v'x hV fun i _ hi=>v'q i hi
    have e2:(List.replicate a z).flatten.map (G.d (nm1 σ nx (k,a)))=Zbt a ez:=by
     rw[hzb.dls (τ:=σ) fun i _ hi=>v'q i hi]
     unfold Zbt
     rw[ez']
     simp[List.map_flatten]
    simpa only[G.d,Zbu,Zfe,VB.c,e1,e2]using this
   ·cases h
  ·cases h
 ·cases h
def ZhV:List G→Option (List Value)
 |[]=>some []
 | .int k n::r=>match ZhV r with|some l=>some (.int k n::l)|none=>none
 | .bool b::r=>match ZhV r with|some l=>some (.bool b::l)|none=>none
 | .str s::r=>match ZhV r with|some l=>some (.string (x'R s)::l)|none=>none
 |_::_=>none
def gEx:G→Option Value
 | .int k n=>some (.int k n)
 | .bool b=>some (.bool b)
 | .str s=>some (.string (x'R s))
 | .agg l=>match ZhV l with|some vs=>some (.agg vs.toArray)|none=>none
 | .fn f []=>some (.func (.func f) #[] #[])
 |_=>none
theorem Zlx (σ:Nm): ∀{l:List G} {vs:List Value},ZhV l=some vs→l.map (G.d σ)=vs.map D.is
 |[],vs,h=>by cases h;rfl
 |g::r,vs,h=>by
  cases g<;>simp only[ZhV]at h<;>first|(cases h;done)|skip
  all_goals
   split at h
   ·rename_i l hl;cases h;rw[z'p,z'p,Zlx σ hl];rfl
   ·cases h
theorem Zkq: ∀vs:List Value,(vs.map D.is).mapM isV=some vs
 |[]=>rfl
 |v::r=>by rw[z'p,w'G,Zkq r];rfl
theorem Zsr {g:G} {v:Value} (h:gEx g=some v) (σ:Nm):Zcz (g.d σ)=some v:=by
 unfold gEx at h
 split at h
 ·cases h;rfl
 ·cases h;rfl
 ·cases h;rfl
 case h_5=>cases h;rfl
 case h_6=>cases h
 split at h
 ·rename_i l vs hl
  cases h
  simp only[G.d,G.dl_eq,Zcz,Zlx σ hl,Zkq,y'l]
 ·cases h
def Ze0:List Value→Option (List G)
 |[]=>some []
 | .int k n::r=>match Ze0 r with|some l=>some (.int k n::l)|none=>none
 | .bool b::r=>match Ze0 r with|some l=>some (.bool b::l)|none=>none
 | .string s::r=>match Ze0 r with|some l=>some (.str s.data.toList::l)|none=>none
 |_::_=>none
def gPv:Value→Option G
 | .int k n=>some (.int k n)
 | .bool b=>some (.bool b)
 | .string s=>some (.str s.data.toList)
 | .agg cs=>match Ze0 cs.toList with|some l=>some (.agg l)|none=>none
 | .func (.func f) bs cs=>match bs.toList,cs.toList with|[],[]=>some (.fn f [])|_,_=>none
 | .map none=>some (.val (.map none))
 |_=>none
theorem ZlD (σ : Nm) : ∀ {vs : List Value} {l : List G}, Ze0 vs = some l → vs.map D.is = l.map (G.d σ)
  | [], l, h => by cases h; rfl
  | v :: r, l, h => by
    unfold Ze0 at h
    split at h
    · rename_i e; cases e
    all_goals first
      | (cases h; done)
      | (rename_i e
         cases e
         split at h
         · rename_i l' hl; cases h; rw [z'p, z'p, ZlD σ hl]; rfl
         · cases h)
theorem Ze1 {v:Value} {g:G} (h:gPv v=some g) (σ:Nm):ZbM v=g.d σ:=by
 unfold gPv at h
 split at h
 ·cases h;rfl
 ·cases h;rfl
 ·cases h;rfl
 ·split at h
  ·rename_i l hl
   cases h
   simp only[G.d,G.dl_eq,ZbM,ZlD σ hl]
  ·cases h
 ·rename_i f bs cs
  split at h
  ·rename_i hb hc
   cases h
   have e1:bs= #[]:=by rw[←Array.toList_inj];exact hb
   have e2:cs= #[]:=by rw[←Array.toList_inj];exact hc
   subst e1;subst e2
   rfl
  ·cases h
 ·cases h;rfl
 ·cases h
theorem Zh2 {v:Value} {g:G} (h:gPv v=some g) {lo:Nat→Prop} {hi:Nat}:Bel lo hi g:=fun σ τ _=>(Ze1 h σ).symm.trans (Ze1 h τ)
theorem Zh3 {v : Value} {g : G} (h : gPv v = some g) : ∀ cs, v = .agg cs → cs.toList.all Value.oneCell' = true := by
  rintro cs rfl
  simp only [gPv] at h
  split at h
  · rename_i l hl
    have key : ∀ {vs : List Value} {l : List G}, Ze0 vs = some l → vs.all Value.oneCell' = true := by
      intro vs
      induction vs with
      | nil => intro _ _; rfl
      | cons v r ih =>
        intro l h
        unfold Ze0 at h
        split at h
        · rename_i e; cases e
        all_goals first
          | (cases h; done)
          | (rename_i e
             cases e
             split at h
             · rename_i l' hl; rw [y'L, ih hl]; rfl
             · cases h)
    exact key hl
  · cases h
def ZjU:G→Option GK
 | .int .i64 n=>some (.i n)
 | .str l=>some (.s l)
 |_=>none
theorem ZbB {g:G} {k:GK} (h:ZjU g=some k) (σ:Nm):g.d σ= .is k.v:=by
 unfold ZjU at h
 split at h<;>cases h<;>rfl
def Zdf:TypeDesc→GK→Bool
 | .int _,.i _=>true
 | .string,.s _=>true
 |_,_=>false
theorem v'C {kd:TypeDesc} {k:GK} (h:Zdf kd k=true):ZfJ kd=true:=by
 cases kd<;>cases k<;>first|rfl|cases h
noncomputable def Zpk:GK→GK→Option Bool
 | .i a,.i b=>some (decide (a=b))
 | .s a,.s b=>some (eqB a b)
 |_,_=>none
theorem Zjq (a b:List UInt8):(x'R a == x'R b)=decide (a=b):=by
 rw[beq_toListBytes,ByteArray.toList_eq,ByteArray.toList_eq]
 show(a == b)=decide (a=b)
 by_cases e:a=b<;>simp[e]
theorem ZlA {kd:TypeDesc} {a b:GK} {r:Bool} (hk:Zdf kd a=true) (h:Zpk a b=some r):Instr.sameNow kd a.v b.v=some r∧(r=true→b=a):=by
 cases a<;>cases b<;>simp only[Zpk,z'L,reduceCtorEq]at h
 ·cases kd<;>simp only[Zdf,y'x]at hk
  subst h
  refine⟨?_,fun h=>by rw[of_decide_eq_true h]⟩
  simp only[GK.v,Instr.sameNow,if_true]
  rfl
 ·cases kd<;>simp only[Zdf,y'x]at hk
  subst h
  rw[ZgV]
  refine⟨?_,fun h=>by rw[of_decide_eq_true h]⟩
  simp only[GK.v,Instr.sameNow]
  rw[Zjq]
noncomputable def ZdK (k:GK):Zdr→Nat→Option (Option (Nat×G))
 |[],_=>some none
 |e::r,i=>match Zpk k e.1 with
  |some true=>some (some (i,e.2.1))
  |some false=>ZdK k r (i+1)
  |none=>none
def v'H (σ:Nm) (p:Option (Nat×G)):Option (Nat×Value):=p.map fun q=>(q.1,dv (q.2.d σ))
theorem v'v {kd:TypeDesc} {k:GK} (hk:Zdf kd k=true) (σ:Nm): ∀{es:Zdr} {i:Nat} {p:Option (Nat×G)},ZdK k es i=some p→Instr.findNow kd k.v (es.map (ZaD σ)) i=some (v'H σ p)∧ ∀q,p=some q→i≤q.1∧ ∃e,es[q.1-i]?=some e∧e.1=k∧e.2.1=q.2
 |[],i,p,h=>by cases h;exact⟨rfl,fun q hq=>by cases hq⟩
 |e::r,i,p,h=>by
  unfold ZdK at h
  split at h
  ·rename_i hq
   cases h
   obtain⟨h1,h2⟩:=ZlA hk hq
   refine⟨?_,fun q hq=>?_⟩
   ·simp only[z'p,Instr.findNow,ZaD,h1];rfl
   ·cases hq
    exact⟨z'c _,e,by simp,h2 rfl,rfl⟩
  ·rename_i hq
   obtain⟨h1,_⟩:=ZlA hk hq
   obtain⟨k1,k2⟩:=v'v hk σ h
   refine⟨?_,fun q hq=>?_⟩
   ·simp only[z'p,Instr.findNow,ZaD,h1];exact k1
   ·obtain⟨q1,e',q2,q3⟩:=k2 q hq
    refine⟨by omega,e',?_,q3⟩
    rw[show q.1-i=(q.1-(i+1))+1 by omega,x'D]
    exact q2
  ·cases h
def gVE:G→Option G
 | .mp b=>some (.mp b)
 |g=>match gEx g with|some v=>some (.val v)|none=>none
theorem Zn1 {g u:G} (h:gVE g=some u) (σ:Nm):Zcz (g.d σ)=some (dv (u.d σ)):=by
 unfold gVE at h
 split at h
 ·cases h;rfl
 ·split at h
  ·rename_i v hv;cases h;exact Zsr hv σ
  ·cases h
theorem Zrk {g u:G} (h:gVE g=some u) {lo:Nat→Prop} {hi:Nat} (hg:Bel lo hi g):Bel lo hi u:=by
 unfold gVE at h
 split at h
 ·cases h;exact hg
 ·split at h
  ·cases h;exact Bel.val
  ·cases h
def Zej (k:GK) (u:G):Zdr→Nat→Zdr
 |[],_=>[]
 |e::r,0=>(k,u,e.2.2)::r
 |e::r,i+1=>e::Zej k u r i
theorem Zj0 (σ:Nm) (k:GK) (u:G): ∀(es:Zdr) (i:Nat),(Zej k u es i).map (ZaD σ)=(es.map (ZaD σ)).modify i fun e=>{e with key:=k.v,val:=dv (u.d σ)}
 |[],i=>by cases i<;>rfl
 |e::r,0=>rfl
 |e::r,i+1=>by
  simp only[Zej,z'p,List.modify_succ_cons,Zj0 σ k u r i]
theorem ZiA {k:GK} {u:G} {x:G}: ∀{es:Zdr} {i:Nat},x∈(Zej k u es i).map (·.2.1)→x=u∨x∈es.map (·.2.1)
 |[],i,h=>by cases i<;>exact .inr h
 |e::r,0,h=>by
  rcases z'v.1 h with h|h
  ·exact .inl h
  ·exact .inr (z'o _ h)
 |e::r,i+1,h=>by
  rcases z'v.1 h with h|h
  ·exact .inr (h▸z't ..)
  ·rcases ZiA h with h|h
   ·exact .inl h
   ·exact .inr (z'o _ h)
noncomputable def ZfC (P:Program) (t:TypeId) (m k v:G) (V:Vh) (nx:Nat):Option (G×Vh×Nat):=match P.underlying t with
 |some (.map kt _)=>match P.underlying kt,m,ZjU k with
  |some kd,.mp b,some k=>match Zdf kd k,ZfW V b,gVE v with
   |true,some (es,c),some u=>match ZdK k es 0 with
    |some none=>ZbC (c+1) fun c'=>Zdq V b (.mp (es++[(k,u,c)]) c') fun V'=>some (.val undef,V',nx)
    |some (some q)=>Zdq V b (.mp (Zej k u es q.1) c) fun V'=>some (.val undef,V',nx)
    |none=>none
   |_,_,_=>none
  |_,_,_=>none
 |_=>none
theorem Zg9 {P:Program} {o:Oper} {lo:Nat→Prop} {nx nx':Nat} {env:Env} {V V':Vh} {t:TypeId} {m k v:Operand} {gm gk gv g:G} (ho:o.op= .mapUpdate t m k v∨o.op= .insert t m k v) (hV:VOk lo nx V) (he:BelE lo nx env) (hm:gX env m=some gm) (hk:gX env k=some gk)
  (hv:gX env v=some gv) (h:ZfC P t gm gk gv V nx=some (g,V',nx')):w'C P o lo env V nx g V' nx':=by
 unfold ZfC at h
 split at h
 ·rename_i kt et hu
  split at h
  ·rename_i kd b ky hkd hky
   split at h
   ·rename_i es c u hfit hl hu'
    have hA:=ZfX hl
    have hbu:=Zrk hu' (x'F hv he)
    have hbe:BelL lo nx (VB.l (.mp es c)):=(hV _ _ (v'w hA)).2.2
    split at h
    ·rename_i hf
     rw[ZfD,ZaN]at h
     cases h
     refine⟨⟨z'c _,ZcY hV hA (fun x hx=>?_),Bel.val⟩,fun σ K hn hK=>?_⟩
     ·rw[VB.l,z'A]at hx
      rcases z'X.1 hx with hx|hx
      ·exact hbe x hx
      ·rw[z'p,y'a,z'R]at hx;subst hx;exact hbu
     refine Zhv ho hu hkd (v'C hfit) (z'2 hm σ) (by rw[z'2 hk σ,ZbB hky σ]) (by rw[z'2 hv];exact Zn1 hu' σ) (w'l hn hA) (by rw[v'p];exact(v'v hfit σ hf).1) (fun q hq=>by cases hq) ?_
     have:=hK σ fun _ _=>rfl
     rw[←Zag (c':= .mp (es++[(ky,u,c)]) (c+1)) hn hA]at this
     have e:(VB.mp (es++[(ky,u,c)]) (c+1)).c σ b= .obj (v'K (v'p σ es) c ky.v (dv (u.d σ)) (v'H σ none)):=by
      simp only[VB.c,v'K,v'H,x'k,v'p,z'A,z'p,y'a,List.push_toArray,ZaD]
     rw[e]at this
     exact this
    ·rename_i q hf
     rw[ZaN]at h
     cases h
     refine⟨⟨z'c _,ZcY hV hA (fun x hx=>?_),Bel.val⟩,fun σ K hn hK=>?_⟩
     ·rcases ZiA hx with hx|hx
      ·exact hx▸hbu
      ·exact hbe x hx
     obtain⟨f1,f2⟩:=v'v hfit σ hf
     obtain⟨_,e0,e1,e2,_⟩:=f2 q rfl
     refine Zhv ho hu hkd (v'C hfit) (z'2 hm σ) (by rw[z'2 hk σ,ZbB hky σ]) (by rw[z'2 hv];exact Zn1 hu' σ) (w'l hn hA) (by rw[v'p];exact f1) (fun q' hq=>?_) ?_
     ·cases hq
      rw[Nat.sub_zero]at e1
      have:(v'p σ es)[q.1]?=some (ZaD σ e0):=by simp[v'p,e1]
      simp only[this,y'l,z'B,ZaD,e2]
      cases ky with
      |i n=>simp[GK.v,Instr.sameBits]
      |s l=>simp[GK.v,Instr.sameBits,Zjq]
     have:=hK σ fun _ _=>rfl
     rw[←Zag (c':= .mp (Zej ky u es q.1) c) hn hA]at this
     have e:(VB.mp (Zej ky u es q.1) c).c σ b= .obj (v'K (v'p σ es) c ky.v (dv (u.d σ)) (v'H σ (some q))):=by
      simp only[VB.c,v'K,v'H,y'l,v'p,Zj0]
      congr 2
      rw[←Array.toList_inj,Array.toList_modify]
     rw[e]at this
     exact this
    ·cases h
   ·cases h
  ·cases h
 ·cases h
def lkR (ok q:Bool) (g:G):G:=match ok with|true=> .tup [g,.bool q]|false=>g
theorem Zkn {σ:Nm} {ok:Bool} {v:Value} {q:Bool} {g:G} (h:ZbM v=g.d σ):ZbH ok (v,q)=(lkR ok q g).d σ:=by
 cases ok
 ·exact h
 ·simp only[ZbH,lkR,G.d,G.dl,h]
theorem Zib {ok q:Bool} {g:G} {lo:Nat→Prop} {hi:Nat} (h:Bel lo hi g):Bel lo hi (lkR ok q g):=by
 cases ok
 ·exact h
 ·refine Bel.tup fun x hx=>?_
  rcases z'v.1 hx with rfl|hx
  ·exact h
  ·rw[z'R]at hx;subst hx;exact Bel.bool
def Zg0:G→Option G
 | .mp b=>some (.mp b)
 | .val v=>gPv v
 |_=>none
theorem Zpa {u g:G} (h:Zg0 u=some g) (σ:Nm):ZbM (dv (u.d σ))=g.d σ∧ ∀cs,dv (u.d σ)= .agg cs→cs.toList.all Value.oneCell'=true:=by
 unfold Zg0 at h
 split at h
 ·cases h;exact⟨rfl,fun cs hc=>by cases hc⟩
 ·exact⟨Ze1 h σ,Zh3 h⟩
 ·cases h
theorem ZnO {u g:G} (h:Zg0 u=some g) {lo:Nat→Prop} {hi:Nat} (hu:Bel lo hi u):Bel lo hi g:=by
 unfold Zg0 at h
 split at h
 ·cases h;exact hu
 ·exact Zh2 h
 ·cases h
noncomputable def ZfB (P:Program) (t:TypeId) (m k:G) (ok:Bool) (V:Vh):Option G:=match P.underlying t with
 |some (.map kt et)=>match P.underlying kt,ZjU k,(P.info? et).bind (·.zero)with
  |some kd,some k,some z=>match Zdf kd k with
   |true=>match m with
    | .mp b=>match ZfW V b with
     |some (es,_)=>match ZdK k es 0 with
      |some (some q)=>match Zg0 q.2 with|some g=>some (lkR ok true g)|none=>none
      |some none=>match gPv z with|some g=>some (lkR ok false g)|none=>none
      |none=>none
     |none=>none
    | .val (.map none)=>match gPv z with|some g=>some (lkR ok false g)|none=>none
    |_=>none
   |false=>none
  |_,_,_=>none
 |_=>none
theorem Zg7 {P:Program} {o:Oper} {lo:Nat→Prop} {nx:Nat} {env:Env} {V:Vh} {t:TypeId} {m k:Operand} {gm gk g:G} {ok:Bool} (ho:o.op= .lookup t m k ok) (hV:VOk lo nx V) (hm:gX env m=some gm) (hk:gX env k=some gk)
  (h:ZfB P t gm gk ok V=some g):Bel lo nx g∧ ∀(σ:Nm) (K:D→Heap→Prop),(Vn σ V).blocks.Nodup→K (g.d σ) (Vn σ V)→Op1 P o (evD (cE σ env)) (Vn σ V) K:=by
 unfold ZfB at h
 split at h
 ·rename_i kt et hu
  split at h
  ·rename_i kd ky z hkd hky hz
   split at h
   ·rename_i hfit
    split at h
    ·rename_i b
     split at h
     ·rename_i es c hl
      have hA:=ZfX hl
      have hbe:BelL lo nx (VB.l (.mp es c)):=(hV _ _ (v'w hA)).2.2
      split at h
      ·rename_i q hf
       split at h
       ·rename_i g' hg
        cases h
        obtain⟨_,f2⟩:=v'v hfit (fun _=>(0,0)) hf
        obtain⟨_,e0,e1,_,e3⟩:=f2 q rfl
        refine⟨Zib (ZnO hg (hbe _ (z'w.2 ⟨e0,z'E e1,e3⟩))),fun σ K hn hK=>?_⟩
        obtain⟨b1,b2⟩:=Zpa hg σ
        refine ZdR (p:=v'H σ (some q)) ho hu hkd (v'C hfit) hz (z'2 hm σ) (by rw[z'2 hk σ,ZbB hky σ]) (w'l hn hA) (by rw[v'p];exact(v'v hfit σ hf).1) b2 ?_
        rw[show v'I z (v'H σ (some q))=(dv (q.2.d σ),true) from rfl,Zkn b1]
        exact hK
       ·cases h
      ·rename_i hf
       split at h
       ·rename_i g' hg
        cases h
        refine⟨Zib (Zh2 hg),fun σ K hn hK=>?_⟩
        refine ZdR (p:=v'H σ none) ho hu hkd (v'C hfit) hz (z'2 hm σ) (by rw[z'2 hk σ,ZbB hky σ]) (w'l hn hA) (by rw[v'p];exact(v'v hfit σ hf).1) (Zh3 hg) ?_
        rw[show v'I z (v'H σ none)=(z,false) from rfl,Zkn (Ze1 hg σ)]
        exact hK
       ·cases h
      ·cases h
     ·cases h
    ·split at h
     ·rename_i g' hg
      cases h
      refine⟨Zib (Zh2 hg),fun σ K hn hK=>?_⟩
      refine Zl5 ho hu hkd (v'C hfit) hz (z'2 hm σ) (by rw[z'2 hk σ,ZbB hky σ]) (Zh3 hg) ?_
      rw[Zkn (Ze1 hg σ)]
      exact hK
     ·cases h
    ·cases h
   ·cases h
  ·cases h
 ·cases h
noncomputable def Zgr (P:Program) (t:TypeId) (r:Option G) (V:Vh) (nx:Nat):Option (G×Vh×Nat):=match P.underlying t with
 |some (.map _ _)=>match r with
  |none=>some (.mp nx,(nx,.mp [] 0)::V,nx+1)
  |some (.int _ _)=>some (.mp nx,(nx,.mp [] 0)::V,nx+1)
  |_=>none
 |_=>none
theorem Zld {P:Program} {o:Oper} {lo:Nat→Prop} {nx nx':Nat} {env:Env} {V V':Vh} {t:TypeId} {r:Option Operand} {gr:Option G} {g:G} (ho:o.op= .makeMap t r) (hlo: ∀i,nx≤i→lo i) (hV:VOk lo nx V) (hr:gXo env r=some gr)
  (h:Zgr P t gr V nx=some (g,V',nx')):w'C P o lo env V nx g V' nx':=by
 unfold Zgr at h
 split at h
 ·rename_i kt et hu
  have key: ∀(hx: ∀σ:Nm, ∀x,r=some x→ ∃k n,evD (cE σ env) x= .is (.int k n)),w'C P o lo env V nx (.mp nx) ((nx,.mp [] 0)::V) (nx+1):=fun hx=>by
   refine⟨⟨Nat.le_succ _,(hV.mono (Nat.le_succ _)).cons (hlo _ (z'c _)) (Nat.lt_succ_self _) (fun g hg=>by cases hg),Bel.mp (hlo _ (z'c _)) (Nat.lt_succ_self _)⟩,fun σ K hn hk=>Zb9 ho hu (hx σ) fun b hb=>?_⟩
   have:=hk (nm1 σ nx (b,0)) v'q
   have e1:Vn (nm1 σ nx (b,0)) V=Vn σ V:=v'x hV fun i _ hi=>v'q i hi
   simp only[G.d,Zbu,Zfe,VB.c,e1]at this
   exact this
  split at h
  ·cases h
   refine key fun σ x hx=>?_
   subst hx
   have:=Ze5 hr σ
   cases this
  ·cases h
   rename_i k n
   refine key fun σ x hx=>?_
   subst hx
   have:=Ze5 hr σ
   simp only[y'l,z'L]at this
   exact⟨_,_,this⟩
  ·cases h
 ·cases h
noncomputable def ZmJ (P:Program) (t:TypeId) (b:Nat) (V:Vh) (nx:Nat):Option (G×Vh×Nat):=match P.underlying t,ZfW V b with
 |some (.map _ _),some (es,_)=>some (.int .i64 es.length,V,nx)
 |_,_=>none
theorem Zpl {P:Program} {o:Oper} {lo:Nat→Prop} {nx nx':Nat} {env:Env} {V V':Vh} {t:TypeId} {m:Operand} {b:Nat} {g:G} (ho:o.op= .call ⟨.builtin .len, #[m], #[t]⟩) (hV:VOk lo nx V) (hm:gX env m=some (.mp b)) (h:ZmJ P t b V nx=some (g,V',nx')):w'C P o lo env V nx g V' nx':=by
 unfold ZmJ at h
 split at h
 ·rename_i kt et es c hu hl
  cases h
  have hA:=ZfX hl
  refine⟨⟨z'c _,hV,Bel.int⟩,fun σ K hn hK=>ZsY ho hu (z'2 hm σ) (w'l hn hA) ?_⟩
  rw[show((v'p σ es).size:Int)=(es.length:Int) by simp[v'p]]
  exact hK σ fun _ _=>rfl
 ·cases h
theorem Zho {α β:Type} (f:α→β): ∀(l:List α) (i:Nat),(l.eraseIdx i).map f=(l.map f).eraseIdx i
 |[],i=>by simp
 |a::l,0=>rfl
 |a::l,i+1=>by simp only[List.eraseIdx_cons_succ,z'p,Zho f l i]
noncomputable def Zpe (P:Program) (t:TypeId) (b:Nat) (k:G) (V:Vh) (nx:Nat):Option (G×Vh×Nat):=match P.underlying t with
 |some (.map kt _)=>match P.underlying kt,ZjU k with
  |some kd,some k=>match Zdf kd k,ZfW V b with
   |true,some (es,c)=>match ZdK k es 0 with
    |some none=>some (.tup [],V,nx)
    |some (some q)=>Zdq V b (.mp (es.eraseIdx q.1) c) fun V'=>some (.tup [],V',nx)
    |none=>none
   |_,_=>none
  |_,_=>none
 |_=>none
theorem Zrb {P:Program} {o:Oper} {lo:Nat→Prop} {nx nx':Nat} {env:Env} {V V':Vh} {t u:TypeId} {m k:Operand} {b:Nat} {gk g:G} (ho:o.op= .call ⟨.builtin .delete, #[m,k], #[t,u]⟩) (hV:VOk lo nx V) (hm:gX env m=some (.mp b)) (hk:gX env k=some gk)
  (h:Zpe P t b gk V nx=some (g,V',nx')):w'C P o lo env V nx g V' nx':=by
 unfold Zpe at h
 split at h
 ·rename_i kt et hu
  split at h
  ·rename_i kd ky hkd hky
   split at h
   ·rename_i es c hfit hl
    have hA:=ZfX hl
    have hbe:BelL lo nx (VB.l (.mp es c)):=(hV _ _ (v'w hA)).2.2
    split at h
    ·rename_i hf
     cases h
     refine⟨⟨z'c _,hV,Bel.tup fun x hx=>by cases hx⟩,fun σ K hn hK=>?_⟩
     refine Zot ho hu hkd (v'C hfit) (z'2 hm σ) (by rw[z'2 hk σ,ZbB hky σ]) (w'l hn hA) (by rw[v'p];exact(v'v hfit σ hf).1) ?_
     have e:hset (Vn σ V) (σ b).1 (.obj (Zbi (v'p σ es) c (v'H σ none)))=Vn σ V:=Ze8 (w'l hn hA)
     rw[e]
     exact hK σ fun _ _=>rfl
    ·rename_i q hf
     rw[ZaN]at h
     cases h
     refine⟨⟨z'c _,ZcY hV hA (fun x hx=>?_),Bel.tup fun x hx=>by cases hx⟩,fun σ K hn hK=>?_⟩
     ·obtain⟨y,hy,rfl⟩:=z'w.1 hx
      exact hbe _ (z'w.2 ⟨y,List.mem_of_mem_eraseIdx hy,rfl⟩)
     refine Zot ho hu hkd (v'C hfit) (z'2 hm σ) (by rw[z'2 hk σ,ZbB hky σ]) (w'l hn hA) (by rw[v'p];exact(v'v hfit σ hf).1) ?_
     have:=hK σ fun _ _=>rfl
     rw[←Zag (c':= .mp (es.eraseIdx q.1) c) hn hA]at this
     have e:(VB.mp (es.eraseIdx q.1) c).c σ b= .obj (Zbi (v'p σ es) c (v'H σ (some q))):=by
      simp only[VB.c,Zbi,v'H,y'l,v'p,List.eraseIdxIfInBounds_toArray,Zho]
     rw[e]at this
     exact this
    ·cases h
   ·cases h
  ·cases h
 ·cases h
noncomputable def Znm (V:Vh) (b:Nat):Option (List UInt8×Nat):=match v'R V b with
 |some (.it s p)=>some (s,p)
 |_=>none
theorem Zr6 {V:Vh} {b p:Nat} {s:List UInt8} (h:Znm V b=some (s,p)):v'R V b=some (.it s p):=by
 unfold Znm at h
 split at h
 ·rename_i h1;cases h;exact h1
 ·cases h
noncomputable def Zj7 (kd:Kd) (x:G) (V:Vh) (nx:Nat):Option (G×Vh×Nat):=match kd,x with
 | .str,.str s=>some (.ptr nx 0,(nx,.it s 0)::V,nx+1)
 |_,_=>none
theorem ZnY {P:Program} (T:Tab P) {o:Oper} {lo:Nat→Prop} {nx nx':Nat} {env:Env} {V V':Vh} {t:TypeId} {x:Operand} {gx g:G} (ho:o.op= .range t x) (hlo: ∀i,nx≤i→lo i) (hV:VOk lo nx V) (hx:gX env x=some gx)
  (h:Zj7 (kdT (T.get t)) gx V nx=some (g,V',nx')):w'C P o lo env V nx g V' nx':=by
 unfold Zj7 at h
 split at h
 ·rename_i s hkd
  cases h
  refine⟨⟨Nat.le_succ _,(hV.mono (Nat.le_succ _)).cons (hlo _ (z'c _)) (Nat.lt_succ_self _) (fun g hg=>by cases hg),Bel.ptr (hlo _ (z'c _)) (Nat.lt_succ_self _)⟩,fun σ K hn hk=>Zl6 T ho ?_⟩
  rw[hkd,z'2 hx σ]
  intro b hb
  have:=hk (nm1 σ nx (b,0)) v'q
  have e1:Vn (nm1 σ nx (b,0)) V=Vn σ V:=v'x hV fun i _ hi=>v'q i hi
  simpa only[G.d,Zbu,Zfe,VB.c,e1]using this
 ·cases h
noncomputable def ZmM (x:G) (V:Vh) (nx:Nat):Option (G×Vh×Nat):=match x with
 | .ptr b 0=>match Znm V b with
  |some (s,p)=>match gIx s p with
   |none=>some (.tup [.bool false],V,nx)
   |some c=>match Nat.blt c.toNat 128 with
    |true=>ZbC (p+1) fun p'=>Zdq V b (.it s p') fun V'=>some (.tup [.bool true,.int .i64 p,.int .i32 c.toNat],V',nx)
    |false=>none
  |none=>none
 |_=>none
theorem Zms {s:List UInt8} {p:Nat} {c:UInt8} (h:s[p]?=some c) (hc:c.toNat<128):Utf8.decode (x'R s) p=(c.toNat,1):=by
 have e:(x'R s).get! (p+0)=c:=by
  simp only[x'R,ByteArray.get!,x'W]
  rw[z'z]at h
  obtain⟨h1,h2⟩:=h
  rw[getElem!_pos _ _ (by simpa using h1)]
  simpa using h2
 unfold Utf8.decode
 simp only[e]
 rw[if_pos (by omega)]
theorem Zpo {P:Program} {o:Oper} {lo:Nat→Prop} {nx nx':Nat} {env:Env} {V V':Vh} {x:Operand} {gx g:G} (ho:o.op= .next x true) (hV:VOk lo nx V) (hx:gX env x=some gx)
  (h:ZmM gx V nx=some (g,V',nx')):w'C P o lo env V nx g V' nx':=by
 unfold ZmM at h
 split at h
 ·rename_i b
  split at h
  ·rename_i s p hi
   have hA:=Zr6 hi
   split at h
   ·rename_i hc
    rw[w'T]at hc
    cases h
    refine⟨⟨z'c _,hV,Bel.tup fun y hy=>by rw[z'R]at hy;subst hy;exact Bel.bool⟩,fun σ K hn hk=>ZkI ho ?_⟩
    rw[z'2 hx σ]
    simp only[cNext,G.d,w'l hn hA,VB.c]
    have hb:Nat.blt p (x'R s).size=false:=by
     rw[v'7, ←Bool.not_eq_true]
     have:=List.getElem?_eq_none_iff.1 hc
     exact fun e=>absurd (Nat.blt_eq.mp e) (by omega)
    rw[hb]
    exact hk σ fun _ _=>rfl
   ·rename_i c hc
    rw[w'T]at hc
    split at h
    ·rename_i hb
     have hb:=Nat.blt_eq.mp hb
     rw[ZfD,ZaN]at h
     cases h
     refine⟨⟨z'c _,ZcY hV hA (fun g hg=>by cases hg),Bel.tup fun y hy=>?_⟩,fun σ K hn hK=>?_⟩
     ·simp only[z'v,y'P,or_false]at hy
      rcases hy with rfl|rfl|rfl
      ·exact Bel.bool
      ·exact Bel.int
      ·exact Bel.int
     ·refine ZkI ho ?_
      rw[z'2 hx σ]
      simp only[cNext,G.d,w'l hn hA,VB.c]
      have hl:Nat.blt p (x'R s).size=true:=by
       obtain⟨h1,_⟩:=z'z.1 hc
       rw[v'7]
       exact Nat.blt_eq.mpr h1
      rw[hl]
      have:=hK σ fun _ _=>rfl
      rw[←Zag (c':= .it s (p+1)) hn hA]at this
      simp only[w'I,Zms hc hb]
      exact this
    ·cases h
  ·cases h
 ·cases h
end Go.Vc
