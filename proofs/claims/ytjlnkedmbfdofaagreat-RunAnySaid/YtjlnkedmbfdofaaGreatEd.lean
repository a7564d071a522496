/- Calls at fixed data, reckoned out: operations upon memory. No condition. -/
import Derived.Test.YtjlnkedmbfdofaaGreatEc
import Derived.Test.YtjlnkedmbfdofaaGreatEq
namespace Go.Vc
set_option linter.unusedSimpArgs false
set_option linter.unusedVariables false
open Go
inductive GK where
 |b (n:Int)
 |i (n:Int)
 |s (l:List UInt8)
def GK.v:GK→Value
 | .b n=> .int .u8 n
 | .i n=> .int .i64 n
 | .s l=> .string (y'u l)
def dv:D→Value
 | .is v=>v
 |_=>undef
abbrev Za3:=List (GK×G×Nat)
def w'1 (σ:Nm) (e:GK×G×Nat):MapEntry:={key:=e.1.v,val:=dv (e.2.1.d σ),born:=e.2.2}
def x'U (σ:Nm) (es:Za3):Array MapEntry:=(es.map (w'1 σ)).toArray
inductive VB where
 |fix (ty n:Nat) (l:List G)
 |gro (e esz:Nat) (l:List G)
 |mp (es:Za3) (c:Nat)
 |it (s:List UInt8) (p:Nat)
abbrev Vh:=List (Nat×VB)
def VB.l:VB→List G
 | .fix _ _ l=>l
 | .gro _ _ l=>l
 | .mp es _=>es.map (·.2.1)
 | .it .. =>[]
def VB.isC:VB→Bool
 | .mp .. =>false
 | .it .. =>false
 |_=>true
def VB.put (l:List G):VB→VB
 | .fix ty n _=> .fix ty n l
 | .gro e esz _=> .gro e esz l
 | .mp es c=> .mp es c
 | .it s p=> .it s p
def VB.c (σ:Nm) (b:Nat):VB→HC
 | .fix ty n l=> .cells ty n (l.map (G.d σ))
 | .gro e esz l=> .cells e ((σ b).2*esz) (l.map (G.d σ))
 | .mp es c=> .obj (.map (x'U σ es) c)
 | .it s p=> .iter (y'u s) p
theorem VB.c_cells (σ:Nm) (b:Nat) (c:VB) (h:c.isC=true): ∃ty n, ∀l,(c.put l).c σ b= .cells ty n (l.map (G.d σ)):=by
 cases c with
 |fix ty n l=>exact⟨ty,n,fun _=>rfl⟩
 |gro e esz l=>exact⟨e,_,fun _=>rfl⟩
 |mp es c=>cases h
 |it s p=>cases h
theorem VB.put_c {c:VB} (h:c.isC=true) (l:List G):(c.put l).l=l:=by cases c<;>first|rfl|cases h
theorem VB.put_l (c:VB):c.put c.l=c:=by cases c<;>rfl
def Vn (σ:Nm) (V:Vh):Heap:=V.map fun p=>((σ p.1).1,p.2.c σ p.1)
theorem v'v (σ:Nm) (b:Nat) (c:VB) (V:Vh):Vn σ ((b,c)::V)=((σ b).1,c.c σ b)::Vn σ V:=rfl
theorem ZfL (σ:Nm) (V W:Vh):Vn σ (V++W)=Vn σ V++Vn σ W:=z'y
def VOk (lo:Nat→Prop) (hi:Nat) (V:Vh):Prop:= ∀b c,(b,c)∈V→lo b∧b<hi∧BelL lo hi c.l
theorem VOk.mono {lo:Nat→Prop} {hi hi':Nat} {V:Vh} (h:VOk lo hi V) (k:hi≤hi'):VOk lo hi' V:=fun b c hm=>by
 obtain⟨h1,h2,h3⟩:=h b c hm
 exact⟨h1,z'm h2 k,fun g hg=>(h3 g hg).mono (fun _ _ h=>h) k⟩
theorem BelL.mono {lo:Nat→Prop} {hi hi':Nat} {l:List G} (h:BelL lo hi l) (k:hi≤hi'):BelL lo hi' l:=fun g hg=>(h g hg).mono (fun _ _ h=>h) k
theorem VB.c_congr {lo:Nat→Prop} {hi b:Nat} {c:VB} (h1:lo b) (h2:b<hi) (h:BelL lo hi c.l) {σ τ:Nm} (k: ∀i,lo i→i<hi→σ i=τ i):c.c σ b=c.c τ b:=by
 have:c.l.map (G.d σ)=c.l.map (G.d τ):=z'R fun g hg=>h g hg σ τ k
 cases c with
 |fix ty n l=>simp only[VB.c];rw[show l.map (G.d σ)=l.map (G.d τ) from this]
 |gro e esz l=>simp only[VB.c];rw[show l.map (G.d σ)=l.map (G.d τ) from this,k b h1 h2]
 |mp es c=>
  have e:es.map (w'1 σ)=es.map (w'1 τ):=z'R fun x hx=>by
   have h1:x.2.1∈VB.l (.mp es c):=z'o.2 ⟨x,hx,rfl⟩
   simp only[w'1,h x.2.1 h1 σ τ k]
  simp only[VB.c,x'U,e]
 |it s p=>rfl
theorem x'3 {lo:Nat→Prop} {hi:Nat} {V:Vh} (h:VOk lo hi V) {σ τ:Nm} (k: ∀i,lo i→i<hi→σ i=τ i):Vn σ V=Vn τ V:=
 z'R fun p hp=>by
  obtain⟨h1,h2,h3⟩:=h p.1 p.2 hp
  rw[VB.c_congr h1 h2 h3 k,k _ h1 h2]
theorem ZfT {lo:Nat→Prop} {hi:Nat} {env:Env} (h:BelE lo hi env) {σ τ:Nm} (k: ∀i,lo i→i<hi→σ i=τ i):cE σ env=cE τ env:=by
 funext t
 exact ZcN h t σ τ k
noncomputable def x'T (V:Vh):Nat→Option VB:=List.rec (fun _=>none) (fun p _ ih b=>match Nat.beq p.1 b with|true=>some p.2|false=>ih b) V
theorem w'J (p:Nat×VB) (V:Vh) (b:Nat):x'T (p::V) b=match Nat.beq p.1 b with|true=>some p.2|false=>x'T V b:=rfl
theorem x'2: ∀{V:Vh} {b:Nat} {c:VB},x'T V b=some c→(b,c)∈V
 |[],b,c,h=>by cases h
 |p::V,b,c,h=>by
  rw[w'J]at h
  split at h
  ·rename_i hb
   cases h
   have:=z'd hb
   subst this
   exact z'k ..
  ·exact z'n _ (x'2 h)
def v'u:Vh→Nat→VB→Vh
 |[],_,_=>[]
 |p::V,b,c=>match Nat.beq p.1 b with|true=>(b,c)::V|false=>p::v'u V b c
noncomputable def Zah {R:Type} (V:Vh):Nat→VB→(Vh→R)→R:=List.rec (fun _ _ k=>k []) (fun p V ih b c k=>match Nat.beq p.1 b with|true=>k ((b,c)::V)|false=>ih b c fun W=>k (p::W)) V
theorem w'z {R:Type}: ∀(V:Vh) (b:Nat) (c:VB) (k:Vh→R),Zah V b c k=k (v'u V b c)
 |[],b,c,k=>rfl
 |p::V,b,c,k=>by
  show(match Nat.beq p.1 b with|true=>k ((b,c)::V)|false=>Zah V b c fun W=>k (p::W))=_
  rw[v'u]
  cases Nat.beq p.1 b with
  |true=>rfl
  |false=>exact w'z V b c _
def w'N:Vh→Nat→Vh
 |[],_=>[]
 |p::V,b=>match Nat.beq p.1 b with|true=>V|false=>p::w'N V b
noncomputable def Zi4 {R:Type} (V:Vh):Nat→(Vh→R)→R:=List.rec (fun _ k=>k []) (fun p V ih b k=>match Nat.beq p.1 b with|true=>k V|false=>ih b fun W=>k (p::W)) V
theorem Zg3 {R:Type}: ∀(V:Vh) (b:Nat) (k:Vh→R),Zi4 V b k=k (w'N V b)
 |[],b,k=>rfl
 |p::V,b,k=>by
  show(match Nat.beq p.1 b with|true=>k V|false=>Zi4 V b fun W=>k (p::W))=_
  rw[w'N]
  cases Nat.beq p.1 b with
  |true=>rfl
  |false=>exact Zg3 V b _
theorem Zg4: ∀(V:Vh) (b:Nat),(w'N V b).Sublist V
 |[],b=>z'V _
 |p::V,b=>by
  rw[w'N]
  split
  ·exact List.sublist_cons_self ..
  ·exact(Zg4 V b).cons_cons _
theorem Zag (σ:Nm): ∀{V:Vh} {b:Nat} {c:VB},x'T V b=some c→(Vn σ V).Perm (((σ b).1,c.c σ b)::Vn σ (w'N V b))
 |[],b,c,h=>by cases h
 |p::V,b,c,h=>by
  rw[w'J]at h
  rw[w'N]
  split at h
  ·rename_i hb
   cases h
   have:=z'd hb
   subst this
   exact y'f _
  ·rename_i hb
   exact((Zag σ h).cons _).trans (List.Perm.swap ..)
theorem ZaK {lo:Nat→Prop} {hi:Nat} {V:Vh} {b:Nat} {c c':VB} (h:VOk lo hi V) (hg:x'T V b=some c) (hc:BelL lo hi c'.l):VOk lo hi (v'u V b c'):=by
 obtain⟨h1,h2,_⟩:=h b c (x'2 hg)
 have key: ∀W:Vh,(∀k x,(k,x)∈W→(k,x)∈V)→ ∀k x,(k,x)∈v'u W b c'→(k=b∧x=c')∨(k,x)∈V:=by
  intro W
  induction W with
  |nil=>intro _ k x hx;cases hx
  |cons p W ih=>
   intro hW k x hx
   rw[v'u]at hx
   split at hx
   ·rcases z'p.1 hx with hx|hx
    ·cases hx;exact .inl ⟨rfl,rfl⟩
    ·exact .inr (hW k x (z'n _ hx))
   ·rcases z'p.1 hx with hx|hx
    ·exact .inr (hW k x (hx▸z'k ..))
    ·exact ih (fun k x hk=>hW k x (z'n _ hk)) k x hx
 intro k x hx
 rcases key V (fun _ _ h=>h) k x hx with⟨rfl,rfl⟩|hm
 ·exact⟨h1,h2,hc⟩
 ·exact h k x hm
theorem Zms {lo:Nat→Prop} {hi:Nat} {V:Vh} {b:Nat} (h:VOk lo hi V):VOk lo hi (w'N V b):=fun k x hx=>h k x ((Zg4 V b).subset hx)
theorem x'Z (σ:Nm) (V:Vh):(Vn σ V).blocks=V.map fun p=>(σ p.1).1:=by simp[Vn,Heap.blocks]
theorem y'4 {σ:Nm} {V:Vh} {b:Nat} {c:VB} (hn:(Vn σ V).blocks.Nodup) (h:x'T V b=some c):y'Z (Vn σ V) (σ b).1=some (c.c σ b):=
 Za9 hn (z'o.2 ⟨(b,c),x'2 h,rfl⟩)
theorem w'K {σ:Nm} {b:Nat} {c':VB}: ∀{V:Vh} {c:VB},(Vn σ V).blocks.Nodup→x'T V b=some c→hset (Vn σ V) (σ b).1 (c'.c σ b)=Vn σ (v'u V b c')
 |[],c,_,h=>by cases h
 |p::V,c,hn,h=>by
  rw[w'J]at h
  rw[v'u]
  split at h
  ·rename_i hb
   have:=z'd hb
   subst this
   exact ZeP
  ·rename_i hb
   have hm:=x'2 h
   have hne: ¬(σ p.1).1=(σ b).1:=fun e=>by
    rw[x'Z,z'g,y'm]at hn
    exact hn.1 (e▸z'o.2 ⟨(b,c),hm,rfl⟩)
   show hset (((σ p.1).1,p.2.c σ p.1)::Vn σ V) _ _=_
   rw[ZeQ hne,w'K (V:=V) (c:=c) ?_ h]
   ·rfl
   ·rw[x'Z,z'g,y'm]at hn
    rw[x'Z];exact hn.2
noncomputable def w'b (V:Vh) (b:Nat):Option VB:=match x'T V b with
 |some c=>match c.isC with|true=>some c|false=>none
 |none=>none
theorem ZaJ {V:Vh} {b:Nat} {c:VB} (h:w'b V b=some c):x'T V b=some c∧c.isC=true:=by
 unfold w'b at h
 split at h
 ·rename_i c1 h1
  split at h
  ·rename_i h2;cases h;exact⟨h1,h2⟩
  ·cases h
 ·cases h
theorem x'B {V:Vh} {b:Nat} {c:VB} (h:w'b V b=some c):c.isC=true:=(ZaJ h).2
theorem x'C {V:Vh} {b:Nat} {c:VB} (h:w'b V b=some c):(b,c)∈V:=x'2 (ZaJ h).1
theorem Zj4 (σ:Nm) {V:Vh} {b:Nat} {c:VB} (h:w'b V b=some c):(Vn σ V).Perm (((σ b).1,c.c σ b)::Vn σ (w'N V b)):=Zag σ (ZaJ h).1
theorem Ze0 {lo:Nat→Prop} {hi:Nat} {V:Vh} {b:Nat} {c c':VB} (h:VOk lo hi V) (hg:w'b V b=some c) (hc:BelL lo hi c'.l):VOk lo hi (v'u V b c'):=ZaK h (ZaJ hg).1 hc
theorem x'i {σ:Nm} {V:Vh} {b:Nat} {c:VB} (hn:(Vn σ V).blocks.Nodup) (h:w'b V b=some c):y'Z (Vn σ V) (σ b).1=some (c.c σ b):=y'4 hn (ZaJ h).1
theorem Zfq {σ:Nm} {b:Nat} {c':VB} {V:Vh} {c:VB} (hn:(Vn σ V).blocks.Nodup) (h:w'b V b=some c):hset (Vn σ V) (σ b).1 (c'.c σ b)=Vn σ (v'u V b c'):=w'K hn (ZaJ h).1
noncomputable def Zdb (V:Vh) (b:Nat):Option (Za3×Nat):=match x'T V b with
 |some (.mp es c)=>some (es,c)
 |_=>none
theorem Zdc {V:Vh} {b c:Nat} {es:Za3} (h:Zdb V b=some (es,c)):x'T V b=some (.mp es c):=by
 unfold Zdb at h
 split at h
 ·rename_i h1;cases h;exact h1
 ·cases h
noncomputable def ZbI (ty:TyI) (a:G) (V:Vh):Option G:=match ty.known with
 |false=>none
 |true=>match a with
  | .ptr b o=>match w'b V b with
   |some c=>match ty.agg with
    |true=>match Nat.ble (o+ty.size) c.l.length with|true=>some (.agg ((c.l.drop o).take ty.size))|false=>none
    |false=>gIx c.l o
   |none=>none
  | .pt row=>match ty.agg with
   |true=>match Nat.ble ty.size row.length with|true=>some (.agg (row.take ty.size))|false=>none
   |false=>gIx row 0
  |_=>none
theorem Zgc {ty:TyI} {a g:G} {V:Vh} (h:ZbI ty a V=some g) {σ:Nm} (hn:(Vn σ V).blocks.Nodup) {K:D→Prop} (hk:K (g.d σ)):cLoad ty (a.d σ) (Vn σ V) K:=by
 unfold ZbI at h
 unfold cLoad
 split at h
 ·cases h
 ·rename_i hkn
  rw[hkn]
  split at h
  ·rename_i b o
   split at h
   ·rename_i c hc
    have hg:=x'i hn hc
    obtain⟨ty',n',hcc⟩:=VB.c_cells σ b c (x'B hc)
    have hcc':=hcc c.l
    rw[VB.put_l]at hcc'
    simp only[G.d,hg,hcc']
    split at h
    ·rename_i ha
     split at h
     ·rename_i hb
      cases h
      rw[ha]
      simp only[z'f]
      exact⟨z'i hb,by rw[←List.map_drop, ←List.map_take, ←G.dl_eq];exact hk⟩
     ·cases h
    ·rename_i ha
     rw[ha]
     rw[x'x]at h
     exact⟨g.d σ,by rw[y'c,h];rfl,hk⟩
   ·cases h
  ·rename_i row
   simp only[G.d,G.dl_eq]
   split at h
   ·rename_i ha
    split at h
    ·rename_i hb
     cases h
     rw[ha]
     simp only[z'f]
     exact⟨z'i hb,by rw[←List.map_take, ←G.dl_eq];exact hk⟩
    ·cases h
   ·rename_i ha
    rw[ha]
    rw[x'x]at h
    exact⟨g.d σ,by rw[y'c,h];rfl,hk⟩
  ·cases h
theorem Ze8 {ty:TyI} {a g:G} {V:Vh} (h:ZbI ty a V=some g) {lo:Nat→Prop} {hi:Nat} (ha:Bel lo hi a) (hV:VOk lo hi V):Bel lo hi g:=by
 unfold ZbI at h
 split at h
 ·cases h
 ·split at h
  ·split at h
   ·rename_i c hc
    have hb:=(hV _ _ (x'C hc)).2.2
    split at h
    ·split at h
     ·cases h;exact Bel.agg ((hb.drop _).take _)
     ·cases h
    ·rw[x'x]at h;exact hb.at h
   ·cases h
  ·split at h
   ·split at h
    ·cases h;exact Bel.agg (ha.pt_l.take _)
    ·cases h
   ·rw[x'x]at h;exact ha.pt_l.at h
  ·cases h
def x'd (P:Program) (o:Oper) (lo:Nat→Prop) (env:Env) (V:Vh) (nx:Nat) (g:G) (V':Vh) (nx':Nat):Prop:=
 (nx≤nx'∧VOk lo nx' V'∧Bel lo nx' g)∧ ∀(σ:Nm) (K:D→Heap→Prop),(Vn σ V).blocks.Nodup→(∀σ':Nm,(∀i,i<nx→σ' i=σ i)→K (g.d σ') (Vn σ' V'))→Op1 P o (evD (cE σ env)) (Vn σ V) K
def nm1 (σ:Nm) (nx:Nat) (p:Nat×Nat):Nm:=fun i=>bif Nat.beq i nx then p else σ i
theorem x'V {σ:Nm} {nx:Nat} {p:Nat×Nat}: ∀i,i<nx→nm1 σ nx p i=σ i:=fun i h=>by
 have:Nat.beq i nx=false:=by
  rw[←Bool.not_eq_true];intro hb;have:=z'd hb;omega
 simp only[nm1,this,cond_false]
theorem ZcC {σ:Nm} {nx:Nat} {p:Nat×Nat}:nm1 σ nx p nx=p:=by
 simp only[nm1,y'8,cond_true]
theorem VOk.cons {lo:Nat→Prop} {hi b:Nat} {c:VB} {V:Vh} (h:VOk lo hi V) (h1:lo b) (h2:b<hi) (h3:BelL lo hi c.l):VOk lo hi ((b,c)::V):=fun k x hx=>by
 rcases z'p.1 hx with hx|hx
 ·cases hx;exact⟨h1,h2,h3⟩
 ·exact h k x hx
theorem BelL.dls {lo:Nat→Prop} {hi:Nat} {l:List G} (h:BelL lo hi l) {σ τ:Nm} (k: ∀i,lo i→i<hi→σ i=τ i):l.map (G.d σ)=l.map (G.d τ):=z'R fun g hg=>h g hg σ τ k
noncomputable def Zch (t:TypeId) (ty:TyI) (V:Vh) (nx:Nat):Option (G×Vh×Nat):=match ty.known with
 |false=>none
 |true=>match v'L ty.zero with
  |some z=>match z.all ZbL with|true=>some (.ptr nx 0,(nx,.fix t z.length z)::V,nx+1)|false=>none
  |none=>none
noncomputable def Zf2 (t:TypeId) (x:G) (V:Vh) (nx:Nat):Option (G×Vh×Nat):=match Zcj x with
 |some l=>match l.all ZbL with|true=>some (.ptr nx 0,(nx,.fix t l.length l)::V,nx+1)|false=>none
 |none=>none
theorem ZjM {P:Program} {o:Oper} {lo:Nat→Prop} {nx:Nat} {env:Env} {V:Vh} {t:TypeId} {l:List G} (hlo: ∀i,nx≤i→lo i) (hV:VOk lo nx V) (hl:BelL lo nx l)
  (h: ∀(σ:Nm) (K:D→Heap→Prop),(∀b,b∉(Vn σ V).blocks→K (.is (.pointer (some ⟨b,0,none⟩))) ((b,.cells t l.length (l.map (G.d σ)))::Vn σ V))→Op1 P o (evD (cE σ env)) (Vn σ V) K):
  x'd P o lo env V nx (.ptr nx 0) ((nx,.fix t l.length l)::V) (nx+1):=by
 refine⟨⟨Nat.le_succ _,(hV.mono (Nat.le_succ _)).cons (hlo _ (z'c _)) (Nat.lt_succ_self _) (hl.mono (Nat.le_succ _)),Bel.ptr (hlo _ (z'c _)) (Nat.lt_succ_self _)⟩,fun σ K hn hk=>h σ K fun b hb=>?_⟩
 have:=hk (nm1 σ nx (b,0)) x'V
 have e1:Vn (nm1 σ nx (b,0)) V=Vn σ V:=x'3 hV fun i _ hi=>x'V i hi
 have e2:l.map (G.d (nm1 σ nx (b,0)))=l.map (G.d σ):=hl.dls fun i _ hi=>x'V i hi
 simpa only[G.d,v'v,ZcC,VB.c,e1,e2]using this
theorem Ze6 {P:Program} (T:Tab P) {o:Oper} {lo:Nat→Prop} {nx nx':Nat} {env:Env} {V V':Vh} {t:TypeId} {g:G} (ho:o.op= .alloc t) (hlo: ∀i,nx≤i→lo i) (hV:VOk lo nx V)
  (h:Zch t (T.get t) V nx=some (g,V',nx')):x'd P o lo env V nx g V' nx':=by
 unfold Zch at h
 split at h
 ·cases h
 ·rename_i hk
  split at h
  ·rename_i z hz
   split at h
   ·rename_i ha
    cases h
    refine ZjM hlo hV (w'8 hz) fun σ K hK=>ZhP T ho ?_
    have e:=v'D hz σ
    have el:(T.get t).zero.length=z.length:=by have:=congrArg List.length e;simpa using this
    simp only[cAlloc,hk,e,el]
    exact⟨w'3 ha σ,hK⟩
   ·cases h
  ·cases h
theorem Zht {P:Program} {o:Oper} {lo:Nat→Prop} {nx nx':Nat} {env:Env} {V V':Vh} {t:TypeId} {x:Operand} {gx g:G} (ho:o.op= .box t x) (hlo: ∀i,nx≤i→lo i) (hV:VOk lo nx V) (he:BelE lo nx env) (hx:gX env x=some gx)
  (h:Zf2 t gx V nx=some (g,V',nx')):x'd P o lo env V nx g V' nx':=by
 unfold Zf2 at h
 split at h
 ·rename_i l hl
  split at h
  ·rename_i ha
   cases h
   refine ZjM hlo hV (ZbE hl (y'q hx he)) fun σ K hK=>Zlw ho ?_
   rw[z'u hx]
   simp only[cBox,Zck hl σ,z'f]
   exact⟨w'3 ha σ,hK⟩
  ·cases h
 ·cases h
noncomputable def Zd9 (known:Bool) (sz:Nat) (a x:G) (V:Vh) (nx:Nat):Option (G×Vh×Nat):=match known with
 |false=>none
 |true=>match a,Zcj x with
  | .ptr b o,some c=>match w'b V b with
   |some bl=>match c.all ZbL&&(Nat.beq c.length sz&&Nat.ble (o+sz) bl.l.length)with
    |true=>x'F (ZbQ bl.l o c) fun l=>Zah V b (bl.put l) fun V'=>some (.val undef,V',nx)
    |false=>none
   |none=>none
  |_,_=>none
theorem ZjB {P:Program} (T:Tab P) {o:Oper} {lo:Nat→Prop} {nx nx':Nat} {env:Env} {V V':Vh} {t:TypeId} {a x:Operand} {ga gx g:G} (ho:o.op= .store t a x) (hV:VOk lo nx V) (he:BelE lo nx env) (ha:gX env a=some ga)
  (hx:gX env x=some gx) (h:Zd9 (T.get t).known (T.get t).size ga gx V nx=some (g,V',nx')):x'd P o lo env V nx g V' nx':=by
 unfold Zd9 at h
 split at h
 ·cases h
 ·rename_i hk
  split at h
  ·rename_i b off c hc
   split at h
   ·rename_i bl hbl
    split at h
    ·rename_i hb
     simp only[y'x,w'z,z'q,Prod.mk.injEq]at h
     obtain⟨rfl,rfl,rfl⟩:=h
     rw[z'b,z'b]at hb
     obtain⟨h1,h2,h3⟩:=hb
     have hbel:=(hV _ _ (x'C hbl)).2.2
     have hcb:=ZbE hc (y'q hx he)
     have hput: ∀l,(bl.put l).l=l:=VB.put_c (x'B hbl)
     refine⟨⟨z'c _,Ze0 hV hbl (by rw[hput];exact ZaW _ _ _ hbel hcb),Bel.val⟩,fun σ K hn hk'=>ZhX T ho hk ?_⟩
     rw[z'u ha,z'u hx]
     obtain⟨ty',n',hcc⟩:=VB.c_cells σ b bl (x'B hbl)
     have hcc':=hcc bl.l
     rw[VB.put_l]at hcc'
     simp only[G.d,cStore,Zck hc σ,x'i hn hbl,hcc',z'f]
     refine⟨⟨w'3 h1 σ,z'd h2,z'i h3⟩,?_⟩
     rw[ZbR, ←hcc,Zfq hn hbl]
     exact hk' σ fun _ _=>rfl
    ·cases h
   ·cases h
  ·cases h
noncomputable def Zd3 (kd:Kd) (l c:G) (V:Vh) (nx:Nat):Option (G×Vh×Nat):=match kd,l,c with
 | .slice e esz eb _ ez,.int _ (.ofNat a),.int _ (.ofNat b)=>match Nat.beq a b&&(Nat.ble (a*eb) 281474976710656&&Nat.ble a 9223372036854775807),v'L ez with
  |true,some z=>match z.all ZbL with
   |true=>x'F (List.replicate a z).flatten fun l=>some (.own nx a,(nx,.gro e esz l)::V,nx+1)
   |false=>none
  |_,_=>none
 |_,_,_=>none
theorem Zgd {P:Program} (T:Tab P) {o:Oper} {lo:Nat→Prop} {nx nx':Nat} {env:Env} {V V':Vh} {t:TypeId} {l c:Operand} {gl gc g:G} (ho:o.op= .makeSlice t l c) (hlo: ∀i,nx≤i→lo i) (hV:VOk lo nx V) (h1:gX env l=some gl)
  (h2:gX env c=some gc) (h:Zd3 (kdT (T.get t)) gl gc V nx=some (g,V',nx')):x'd P o lo env V nx g V' nx':=by
 unfold Zd3 at h
 split at h
 ·rename_i e esz eb ea ez k1 a k2 b hkd
  split at h
  ·rename_i z hb hz
   split at h
   ·rename_i ha
    simp only[y'x,z'q,Prod.mk.injEq]at h
    obtain⟨rfl,rfl,rfl⟩:=h
    rw[z'b,z'b]at hb
    obtain⟨b1,b2,b3⟩:=hb
    obtain rfl:=z'd b1
    have hzb:BelL lo nx (List.replicate a z).flatten:=fun g hg=>by
     obtain⟨r,hr,hg⟩:=List.mem_flatten.1 hg
     exact w'8 hz g ((List.mem_replicate.1 hr).2▸hg)
    refine⟨⟨Nat.le_succ _,(hV.mono (Nat.le_succ _)).cons (hlo _ (z'c _)) (Nat.lt_succ_self _) (hzb.mono (Nat.le_succ _)),Bel.own (hlo _ (z'c _)) (Nat.lt_succ_self _)⟩,fun σ K hn hk=>ZjV T ho ?_⟩
    rw[z'u h1,z'u h2,hkd]
    have ez':=v'D hz σ
    simp only[G.d,cMake,Int.ofNat_eq_natCast,z'D,ez']
    refine⟨⟨by omega,trivial,z'i b2,by have:=z'i b3;omega,w'3 ha σ⟩,fun k hkH=>?_⟩
    have:=hk (nm1 σ nx (k,a)) x'V
    have e1:Vn (nm1 σ nx (k,a)) V=Vn σ V:=x'3 hV fun i _ hi=>x'V i hi
    have e2:(List.replicate a z).flatten.map (G.d (nm1 σ nx (k,a)))=v'0 a ez:=by
     rw[hzb.dls (τ:=σ) fun i _ hi=>x'V i hi]
     unfold v'0
     rw[ez']
     simp[List.map_flatten]
    simpa only[G.d,v'v,ZcC,VB.c,e1,e2]using this
   ·cases h
  ·cases h
 ·cases h
def Zey:List G→Option (List Value)
 |[]=>some []
 | .int k n::r=>match Zey r with|some l=>some (.int k n::l)|none=>none
 | .bool b::r=>match Zey r with|some l=>some (.bool b::l)|none=>none
 | .str s::r=>match Zey r with|some l=>some (.string (y'u s)::l)|none=>none
 |_::_=>none
def gEx:G→Option Value
 | .int k n=>some (.int k n)
 | .bool b=>some (.bool b)
 | .str s=>some (.string (y'u s))
 | .agg l=>match Zey l with|some vs=>some (.agg vs.toArray)|none=>none
 | .fn f []=>some (.func (.func f) #[] #[])
 |_=>none
theorem Zhx (σ:Nm): ∀{l:List G} {vs:List Value},Zey l=some vs→l.map (G.d σ)=vs.map D.is
 |[],vs,h=>by cases h;rfl
 |g::r,vs,h=>by
  cases g<;>simp only[Zey]at h<;>first|(cases h;done)|skip
  all_goals
   split at h
   ·rename_i l hl;cases h;rw[z'g,z'g,Zhx σ hl];rfl
   ·cases h
theorem ZgF: ∀vs:List Value,(vs.map D.is).mapM isV=some vs
 |[]=>rfl
 |v::r=>by rw[z'g,x'n,ZgF r];rfl
theorem ZmK {g:G} {v:Value} (h:gEx g=some v) (σ:Nm):Zbg (g.d σ)=some v:=by
 unfold gEx at h
 split at h
 ·cases h;rfl
 ·cases h;rfl
 ·cases h;rfl
 case h_5=>cases h;rfl
 case h_6=>cases h
 split at h
 ·rename_i l vs hl
  cases h
  simp only[G.d,G.dl_eq,Zbg,Zhx σ hl,ZgF,y'a]
 ·cases h
def Zcp:List Value→Option (List G)
 |[]=>some []
 | .int k n::r=>match Zcp r with|some l=>some (.int k n::l)|none=>none
 | .bool b::r=>match Zcp r with|some l=>some (.bool b::l)|none=>none
 | .string s::r=>match Zcp r with|some l=>some (.str s.data.toList::l)|none=>none
 |_::_=>none
def gPv:Value→Option G
 | .int k n=>some (.int k n)
 | .bool b=>some (.bool b)
 | .string s=>some (.str s.data.toList)
 | .agg cs=>match Zcp cs.toList with|some l=>some (.agg l)|none=>none
 | .func (.func f) bs cs=>match bs.toList,cs.toList with|[],[]=>some (.fn f [])|_,_=>none
 | .map none=>some (.val (.map none))
 | .nilFunc=>some (.val .nilFunc)
 |_=>none
theorem ZhE (σ : Nm) : ∀ {vs : List Value} {l : List G}, Zcp vs = some l → vs.map D.is = l.map (G.d σ)
  | [], l, h => by cases h; rfl
  | v :: r, l, h => by
    unfold Zcp at h
    split at h
    · rename_i e; cases e
    all_goals first
      | (cases h; done)
      | (rename_i e
         cases e
         split at h
         · rename_i l' hl; cases h; rw [z'g, z'g, ZhE σ hl]; rfl
         · cases h)
theorem Zcq {v:Value} {g:G} (h:gPv v=some g) (σ:Nm):ZcJ v=g.d σ:=by
 unfold gPv at h
 split at h
 ·cases h;rfl
 ·cases h;rfl
 ·cases h;rfl
 ·split at h
  ·rename_i l hl
   cases h
   simp only[G.d,G.dl_eq,ZcJ,ZhE σ hl]
  ·cases h
 ·rename_i f bs cs
  split at h
  ·rename_i hb hc
   cases h
   have e1:bs= #[]:=by rw[←Array.toList_inj];exact hb
   have e2:cs= #[]:=by rw[←Array.toList_inj];exact hc
   subst e1;subst e2
   rfl
  ·cases h
 ·cases h;rfl
 ·cases h;rfl
 ·cases h
theorem ZeF {v:Value} {g:G} (h:gPv v=some g) {lo:Nat→Prop} {hi:Nat}:Bel lo hi g:=fun σ τ _=>(Zcq h σ).symm.trans (Zcq h τ)
theorem ZeG {v : Value} {g : G} (h : gPv v = some g) : ∀ cs, v = .agg cs → cs.toList.all Value.oneCell' = true := by
  rintro cs rfl
  simp only [gPv] at h
  split at h
  · rename_i l hl
    have key : ∀ {vs : List Value} {l : List G}, Zcp vs = some l → vs.all Value.oneCell' = true := by
      intro vs
      induction vs with
      | nil => intro _ _; rfl
      | cons v r ih =>
        intro l h
        unfold Zcp at h
        split at h
        · rename_i e; cases e
        all_goals first
          | (cases h; done)
          | (rename_i e
             cases e
             split at h
             · rename_i l' hl; rw [y'b, ih hl]; rfl
             · cases h)
    exact key hl
  · cases h
def Zga:G→Option GK
 | .int .i64 n=>some (.i n)
 | .int .u8 n=>some (.b n)
 | .str l=>some (.s l)
 |_=>none
theorem v'A {g:G} {k:GK} (h:Zga g=some k) (σ:Nm):g.d σ= .is k.v:=by
 unfold Zga at h
 split at h<;>cases h<;>rfl
def Zae:TypeDesc→GK→Bool
 | .int _,.i _=>true
 | .int _,.b _=>true
 | .string,.s _=>true
 |_,_=>false
theorem x'6 {kd:TypeDesc} {k:GK} (h:Zae kd k=true):Zc1 kd=true:=by
 cases kd<;>cases k<;>first|rfl|cases h
noncomputable def Zks:GK→GK→Option Bool
 | .i a,.i b=>some (decide (a=b))
 | .b a,.b b=>some (decide (a=b))
 | .s a,.s b=>some (eqB a b)
 |_,_=>none
theorem ZfQ (a b:List UInt8):(y'u a == y'u b)=decide (a=b):=by
 rw[beq_toListBytes,ByteArray.toList_eq,ByteArray.toList_eq]
 show(a == b)=decide (a=b)
 by_cases e:a=b<;>simp[e]
theorem ZhB {kd:TypeDesc} {a b:GK} {r:Bool} (hk:Zae kd a=true) (h:Zks a b=some r):Instr.sameNow kd a.v b.v=some r∧(r=true→b=a):=by
 cases a<;>cases b<;>simp only[Zks,z'q,reduceCtorEq]at h
 ·cases kd<;>simp only[Zae,y'i]at hk
  subst h
  refine⟨?_,fun h=>by rw[of_decide_eq_true h]⟩
  simp only[GK.v,Instr.sameNow,if_true]
  rfl
 ·cases kd<;>simp only[Zae,y'i]at hk
  subst h
  refine⟨?_,fun h=>by rw[of_decide_eq_true h]⟩
  simp only[GK.v,Instr.sameNow,if_true]
  rfl
 ·cases kd<;>simp only[Zae,y'i]at hk
  subst h
  rw[ZdP]
  refine⟨?_,fun h=>by rw[of_decide_eq_true h]⟩
  simp only[GK.v,Instr.sameNow]
  rw[ZfQ]
noncomputable def Zbk (k:GK):Za3→Nat→Option (Option (Nat×G))
 |[],_=>some none
 |e::r,i=>match Zks k e.1 with
  |some true=>some (some (i,e.2.1))
  |some false=>Zbk k r (i+1)
  |none=>none
def w'f (σ:Nm) (p:Option (Nat×G)):Option (Nat×Value):=p.map fun q=>(q.1,dv (q.2.d σ))
theorem x'1 {kd:TypeDesc} {k:GK} (hk:Zae kd k=true) (σ:Nm): ∀{es:Za3} {i:Nat} {p:Option (Nat×G)},Zbk k es i=some p→Instr.findNow kd k.v (es.map (w'1 σ)) i=some (w'f σ p)∧ ∀q,p=some q→i≤q.1∧ ∃e,es[q.1-i]?=some e∧e.1=k∧e.2.1=q.2
 |[],i,p,h=>by cases h;exact⟨rfl,fun q hq=>by cases hq⟩
 |e::r,i,p,h=>by
  unfold Zbk at h
  split at h
  ·rename_i hq
   cases h
   obtain⟨h1,h2⟩:=ZhB hk hq
   refine⟨?_,fun q hq=>?_⟩
   ·simp only[z'g,Instr.findNow,w'1,h1];rfl
   ·cases hq
    exact⟨z'c _,e,by simp,h2 rfl,rfl⟩
  ·rename_i hq
   obtain⟨h1,_⟩:=ZhB hk hq
   obtain⟨k1,k2⟩:=x'1 hk σ h
   refine⟨?_,fun q hq=>?_⟩
   ·simp only[z'g,Instr.findNow,w'1,h1];exact k1
   ·obtain⟨q1,e',q2,q3⟩:=k2 q hq
    refine⟨by omega,e',?_,q3⟩
    rw[show q.1-i=(q.1-(i+1))+1 by omega,y'6]
    exact q2
  ·cases h
def gVE:G→Option G
 | .mp b=>some (.mp b)
 | .fn f cs=>some (.fn f cs)
 |g=>match gEx g with|some v=>some (.val v)|none=>none
theorem ZjC {g u:G} (h:gVE g=some u) (σ:Nm):Zbg (g.d σ)=some (dv (u.d σ)):=by
 unfold gVE at h
 split at h
 ·cases h;rfl
 ·cases h;rfl
 ·split at h
  ·rename_i v hv;cases h;exact ZmK hv σ
  ·cases h
theorem Zl4 {g u:G} (h:gVE g=some u) {lo:Nat→Prop} {hi:Nat} (hg:Bel lo hi g):Bel lo hi u:=by
 unfold gVE at h
 split at h
 ·cases h;exact hg
 ·cases h;exact hg
 ·split at h
  ·cases h;exact Bel.val
  ·cases h
def ZbK (k:GK) (u:G):Za3→Nat→Za3
 |[],_=>[]
 |e::r,0=>(k,u,e.2.2)::r
 |e::r,i+1=>e::ZbK k u r i
theorem Zgg (σ:Nm) (k:GK) (u:G): ∀(es:Za3) (i:Nat),(ZbK k u es i).map (w'1 σ)=(es.map (w'1 σ)).modify i fun e=>{e with key:=k.v,val:=dv (u.d σ)}
 |[],i=>by cases i<;>rfl
 |e::r,0=>rfl
 |e::r,i+1=>by
  simp only[ZbK,z'g,List.modify_succ_cons,Zgg σ k u r i]
theorem Ze9 {k:GK} {u:G} {x:G}: ∀{es:Za3} {i:Nat},x∈(ZbK k u es i).map (·.2.1)→x=u∨x∈es.map (·.2.1)
 |[],i,h=>by cases i<;>exact .inr h
 |e::r,0,h=>by
  rcases z'p.1 h with h|h
  ·exact .inl h
  ·exact .inr (z'n _ h)
 |e::r,i+1,h=>by
  rcases z'p.1 h with h|h
  ·exact .inr (h▸z'k ..)
  ·rcases Ze9 h with h|h
   ·exact .inl h
   ·exact .inr (z'n _ h)
noncomputable def ZcV (P:Program) (t:TypeId) (m k v:G) (V:Vh) (nx:Nat):Option (G×Vh×Nat):=match P.underlying t with
 |some (.map kt _)=>match P.underlying kt,m,Zga k with
  |some kd,.mp b,some k=>match Zae kd k,Zdb V b,gVE v with
   |true,some (es,c),some u=>match Zbk k es 0 with
    |some none=>v'B (c+1) fun c'=>Zah V b (.mp (es++[(k,u,c)]) c') fun V'=>some (.val undef,V',nx)
    |some (some q)=>Zah V b (.mp (ZbK k u es q.1) c) fun V'=>some (.val undef,V',nx)
    |none=>none
   |_,_,_=>none
  |_,_,_=>none
 |_=>none
theorem Zd4 {P:Program} {o:Oper} {lo:Nat→Prop} {nx nx':Nat} {env:Env} {V V':Vh} {t:TypeId} {m k v:Operand} {gm gk gv g:G} (ho:o.op= .mapUpdate t m k v∨o.op= .insert t m k v) (hV:VOk lo nx V) (he:BelE lo nx env) (hm:gX env m=some gm) (hk:gX env k=some gk)
  (hv:gX env v=some gv) (h:ZcV P t gm gk gv V nx=some (g,V',nx')):x'd P o lo env V nx g V' nx':=by
 unfold ZcV at h
 split at h
 ·rename_i kt et hu
  split at h
  ·rename_i kd b ky hkd hky
   split at h
   ·rename_i es c u hfit hl hu'
    have hA:=Zdc hl
    have hbu:=Zl4 hu' (y'q hv he)
    have hbe:BelL lo nx (VB.l (.mp es c)):=(hV _ _ (x'2 hA)).2.2
    split at h
    ·rename_i hf
     rw[ZcW,w'z]at h
     cases h
     refine⟨⟨z'c _,ZaK hV hA (fun x hx=>?_),Bel.val⟩,fun σ K hn hK=>?_⟩
     ·rw[VB.l,z'y]at hx
      rcases y'j.1 hx with hx|hx
      ·exact hbe x hx
      ·rw[z'g,y'o,y'h]at hx;subst hx;exact hbu
     refine ZjY ho hu hkd (x'6 hfit) (z'u hm σ) (by rw[z'u hk σ,v'A hky σ]) (by rw[z'u hv];exact ZjC hu' σ) (y'4 hn hA) (by rw[x'U];exact(x'1 hfit σ hf).1) (fun q hq=>by cases hq) ?_
     have:=hK σ fun _ _=>rfl
     rw[←w'K (c':= .mp (es++[(ky,u,c)]) (c+1)) hn hA]at this
     have e:(VB.mp (es++[(ky,u,c)]) (c+1)).c σ b= .obj (w'R (x'U σ es) c ky.v (dv (u.d σ)) (w'f σ none)):=by
      simp only[VB.c,w'R,w'f,y't,x'U,z'y,z'g,y'o,List.push_toArray,w'1]
     rw[e]at this
     exact this
    ·rename_i q hf
     rw[w'z]at h
     cases h
     refine⟨⟨z'c _,ZaK hV hA (fun x hx=>?_),Bel.val⟩,fun σ K hn hK=>?_⟩
     ·rcases Ze9 hx with hx|hx
      ·exact hx▸hbu
      ·exact hbe x hx
     obtain⟨f1,f2⟩:=x'1 hfit σ hf
     obtain⟨_,e0,e1,e2,_⟩:=f2 q rfl
     refine ZjY ho hu hkd (x'6 hfit) (z'u hm σ) (by rw[z'u hk σ,v'A hky σ]) (by rw[z'u hv];exact ZjC hu' σ) (y'4 hn hA) (by rw[x'U];exact f1) (fun q' hq=>?_) ?_
     ·cases hq
      rw[Nat.sub_zero]at e1
      have:(x'U σ es)[q.1]?=some (w'1 σ e0):=by simp[x'U,e1]
      simp only[this,y'a,z'K,w'1,e2]
      cases ky with
      |i n=>simp[GK.v,Instr.sameBits]
      |b n=>simp[GK.v,Instr.sameBits]
      |s l=>simp[GK.v,Instr.sameBits,ZfQ]
     have:=hK σ fun _ _=>rfl
     rw[←w'K (c':= .mp (ZbK ky u es q.1) c) hn hA]at this
     have e:(VB.mp (ZbK ky u es q.1) c).c σ b= .obj (w'R (x'U σ es) c ky.v (dv (u.d σ)) (w'f σ (some q))):=by
      simp only[VB.c,w'R,w'f,y'a,x'U,Zgg]
      congr 2
      rw[←Array.toList_inj,Array.toList_modify]
     rw[e]at this
     exact this
    ·cases h
   ·cases h
  ·cases h
 ·cases h
def lkR (ok q:Bool) (g:G):G:=match ok with|true=> .tup [g,.bool q]|false=>g
theorem ZgC {σ:Nm} {ok:Bool} {v:Value} {q:Bool} {g:G} (h:ZcJ v=g.d σ):v'G ok (v,q)=(lkR ok q g).d σ:=by
 cases ok
 ·exact h
 ·simp only[v'G,lkR,G.d,G.dl,h]
theorem ZeT {ok q:Bool} {g:G} {lo:Nat→Prop} {hi:Nat} (h:Bel lo hi g):Bel lo hi (lkR ok q g):=by
 cases ok
 ·exact h
 ·refine Bel.tup fun x hx=>?_
  rcases z'p.1 hx with rfl|hx
  ·exact h
  ·rw[y'h]at hx;subst hx;exact Bel.bool
def ZdU:G→Option G
 | .mp b=>some (.mp b)
 | .fn f cs=>some (.fn f cs)
 | .val v=>gPv v
 |_=>none
theorem Zkf {u g:G} (h:ZdU u=some g) (σ:Nm):ZcJ (dv (u.d σ))=g.d σ∧ ∀cs,dv (u.d σ)= .agg cs→cs.toList.all Value.oneCell'=true:=by
 unfold ZdU at h
 split at h
 ·cases h;exact⟨rfl,fun cs hc=>by cases hc⟩
 ·cases h;exact⟨rfl,fun cs hc=>by cases hc⟩
 ·exact⟨Zcq h σ,ZeG h⟩
 ·cases h
theorem Zjm {u g:G} (h:ZdU u=some g) {lo:Nat→Prop} {hi:Nat} (hu:Bel lo hi u):Bel lo hi g:=by
 unfold ZdU at h
 split at h
 ·cases h;exact hu
 ·cases h;exact hu
 ·exact ZeF h
 ·cases h
noncomputable def ZcU (P:Program) (t:TypeId) (m k:G) (ok:Bool) (V:Vh):Option G:=match P.underlying t with
 |some (.map kt et)=>match P.underlying kt,Zga k,(P.info? et).bind (·.zero)with
  |some kd,some k,some z=>match Zae kd k with
   |true=>match m with
    | .mp b=>match Zdb V b with
     |some (es,_)=>match Zbk k es 0 with
      |some (some q)=>match ZdU q.2 with|some g=>some (lkR ok true g)|none=>none
      |some none=>match gPv z with|some g=>some (lkR ok false g)|none=>none
      |none=>none
     |none=>none
    | .val (.map none)=>match gPv z with|some g=>some (lkR ok false g)|none=>none
    |_=>none
   |false=>none
  |_,_,_=>none
 |_=>none
theorem Zd2 {P:Program} {o:Oper} {lo:Nat→Prop} {nx:Nat} {env:Env} {V:Vh} {t:TypeId} {m k:Operand} {gm gk g:G} {ok:Bool} (ho:o.op= .lookup t m k ok) (hV:VOk lo nx V) (hm:gX env m=some gm) (hk:gX env k=some gk)
  (h:ZcU P t gm gk ok V=some g):Bel lo nx g∧ ∀(σ:Nm) (K:D→Heap→Prop),(Vn σ V).blocks.Nodup→K (g.d σ) (Vn σ V)→Op1 P o (evD (cE σ env)) (Vn σ V) K:=by
 unfold ZcU at h
 split at h
 ·rename_i kt et hu
  split at h
  ·rename_i kd ky z hkd hky hz
   split at h
   ·rename_i hfit
    split at h
    ·rename_i b
     split at h
     ·rename_i es c hl
      have hA:=Zdc hl
      have hbe:BelL lo nx (VB.l (.mp es c)):=(hV _ _ (x'2 hA)).2.2
      split at h
      ·rename_i q hf
       split at h
       ·rename_i g' hg
        cases h
        obtain⟨_,f2⟩:=x'1 hfit (fun _=>(0,0)) hf
        obtain⟨_,e0,e1,_,e3⟩:=f2 q rfl
        refine⟨ZeT (Zjm hg (hbe _ (z'o.2 ⟨e0,z'F e1,e3⟩))),fun σ K hn hK=>?_⟩
        obtain⟨b1,b2⟩:=Zkf hg σ
        refine ZhU (p:=w'f σ (some q)) ho hu hkd (x'6 hfit) hz (z'u hm σ) (by rw[z'u hk σ,v'A hky σ]) (y'4 hn hA) (by rw[x'U];exact(x'1 hfit σ hf).1) b2 ?_
        rw[show w's z (w'f σ (some q))=(dv (q.2.d σ),true) from rfl,ZgC b1]
        exact hK
       ·cases h
      ·rename_i hf
       split at h
       ·rename_i g' hg
        cases h
        refine⟨ZeT (ZeF hg),fun σ K hn hK=>?_⟩
        refine ZhU (p:=w'f σ none) ho hu hkd (x'6 hfit) hz (z'u hm σ) (by rw[z'u hk σ,v'A hky σ]) (y'4 hn hA) (by rw[x'U];exact(x'1 hfit σ hf).1) (ZeG hg) ?_
        rw[show w's z (w'f σ none)=(z,false) from rfl,ZgC (Zcq hg σ)]
        exact hK
       ·cases h
      ·cases h
     ·cases h
    ·split at h
     ·rename_i g' hg
      cases h
      refine⟨ZeT (ZeF hg),fun σ K hn hK=>?_⟩
      refine Zmi ho hu hkd (x'6 hfit) hz (z'u hm σ) (by rw[z'u hk σ,v'A hky σ]) (ZeG hg) ?_
      rw[ZgC (Zcq hg σ)]
      exact hK
     ·cases h
    ·cases h
   ·cases h
  ·cases h
 ·cases h
noncomputable def Zdt (P:Program) (t:TypeId) (r:Option G) (V:Vh) (nx:Nat):Option (G×Vh×Nat):=match P.underlying t with
 |some (.map _ _)=>match r with
  |none=>some (.mp nx,(nx,.mp [] 0)::V,nx+1)
  |some (.int _ _)=>some (.mp nx,(nx,.mp [] 0)::V,nx+1)
  |_=>none
 |_=>none
theorem Zhj {P:Program} {o:Oper} {lo:Nat→Prop} {nx nx':Nat} {env:Env} {V V':Vh} {t:TypeId} {r:Option Operand} {gr:Option G} {g:G} (ho:o.op= .makeMap t r) (hlo: ∀i,nx≤i→lo i) (hV:VOk lo nx V) (hr:gXo env r=some gr)
  (h:Zdt P t gr V nx=some (g,V',nx')):x'd P o lo env V nx g V' nx':=by
 unfold Zdt at h
 split at h
 ·rename_i kt et hu
  have key: ∀(hx: ∀σ:Nm, ∀x,r=some x→ ∃k n,evD (cE σ env) x= .is (.int k n)),x'd P o lo env V nx (.mp nx) ((nx,.mp [] 0)::V) (nx+1):=fun hx=>by
   refine⟨⟨Nat.le_succ _,(hV.mono (Nat.le_succ _)).cons (hlo _ (z'c _)) (Nat.lt_succ_self _) (fun g hg=>by cases hg),Bel.mp (hlo _ (z'c _)) (Nat.lt_succ_self _)⟩,fun σ K hn hk=>ZjW ho hu (hx σ) fun b hb=>?_⟩
   have:=hk (nm1 σ nx (b,0)) x'V
   have e1:Vn (nm1 σ nx (b,0)) V=Vn σ V:=x'3 hV fun i _ hi=>x'V i hi
   simp only[G.d,v'v,ZcC,VB.c,e1]at this
   exact this
  split at h
  ·cases h
   refine key fun σ x hx=>?_
   subst hx
   have:=Zcu hr σ
   cases this
  ·cases h
   rename_i k n
   refine key fun σ x hx=>?_
   subst hx
   have:=Zcu hr σ
   simp only[y'a,z'q]at this
   exact⟨_,_,this⟩
  ·cases h
 ·cases h
noncomputable def Ziz (P:Program) (t:TypeId) (b:Nat) (V:Vh) (nx:Nat):Option (G×Vh×Nat):=match P.underlying t,Zdb V b with
 |some (.map _ _),some (es,_)=>some (.int .i64 es.length,V,nx)
 |_,_=>none
theorem Zkt {P:Program} {o:Oper} {lo:Nat→Prop} {nx nx':Nat} {env:Env} {V V':Vh} {t:TypeId} {m:Operand} {b:Nat} {g:G} (ho:o.op= .call ⟨.builtin .len, #[m], #[t]⟩) (hV:VOk lo nx V) (hm:gX env m=some (.mp b)) (h:Ziz P t b V nx=some (g,V',nx')):x'd P o lo env V nx g V' nx':=by
 unfold Ziz at h
 split at h
 ·rename_i kt et es c hu hl
  cases h
  have hA:=Zdc hl
  refine⟨⟨z'c _,hV,Bel.int⟩,fun σ K hn hK=>Zng ho hu (z'u hm σ) (y'4 hn hA) ?_⟩
  rw[show((x'U σ es).size:Int)=(es.length:Int) by simp[x'U]]
  exact hK σ fun _ _=>rfl
 ·cases h
theorem Zef {α β:Type} (f:α→β): ∀(l:List α) (i:Nat),(l.eraseIdx i).map f=(l.map f).eraseIdx i
 |[],i=>by simp
 |a::l,0=>rfl
 |a::l,i+1=>by simp only[List.eraseIdx_cons_succ,z'g,Zef f l i]
noncomputable def Zkk (P:Program) (t:TypeId) (b:Nat) (k:G) (V:Vh) (nx:Nat):Option (G×Vh×Nat):=match P.underlying t with
 |some (.map kt _)=>match P.underlying kt,Zga k with
  |some kd,some k=>match Zae kd k,Zdb V b with
   |true,some (es,c)=>match Zbk k es 0 with
    |some none=>some (.tup [],V,nx)
    |some (some q)=>Zah V b (.mp (es.eraseIdx q.1) c) fun V'=>some (.tup [],V',nx)
    |none=>none
   |_,_=>none
  |_,_=>none
 |_=>none
theorem ZlV {P:Program} {o:Oper} {lo:Nat→Prop} {nx nx':Nat} {env:Env} {V V':Vh} {t u:TypeId} {m k:Operand} {b:Nat} {gk g:G} (ho:o.op= .call ⟨.builtin .delete, #[m,k], #[t,u]⟩) (hV:VOk lo nx V) (hm:gX env m=some (.mp b)) (hk:gX env k=some gk)
  (h:Zkk P t b gk V nx=some (g,V',nx')):x'd P o lo env V nx g V' nx':=by
 unfold Zkk at h
 split at h
 ·rename_i kt et hu
  split at h
  ·rename_i kd ky hkd hky
   split at h
   ·rename_i es c hfit hl
    have hA:=Zdc hl
    have hbe:BelL lo nx (VB.l (.mp es c)):=(hV _ _ (x'2 hA)).2.2
    split at h
    ·rename_i hf
     cases h
     refine⟨⟨z'c _,hV,Bel.tup fun x hx=>by cases hx⟩,fun σ K hn hK=>?_⟩
     refine ZjS ho hu hkd (x'6 hfit) (z'u hm σ) (by rw[z'u hk σ,v'A hky σ]) (y'4 hn hA) (by rw[x'U];exact(x'1 hfit σ hf).1) ?_
     have e:hset (Vn σ V) (σ b).1 (.obj (v'l (x'U σ es) c (w'f σ none)))=Vn σ V:=Zcx (y'4 hn hA)
     rw[e]
     exact hK σ fun _ _=>rfl
    ·rename_i q hf
     rw[w'z]at h
     cases h
     refine⟨⟨z'c _,ZaK hV hA (fun x hx=>?_),Bel.tup fun x hx=>by cases hx⟩,fun σ K hn hK=>?_⟩
     ·obtain⟨y,hy,rfl⟩:=z'o.1 hx
      exact hbe _ (z'o.2 ⟨y,List.mem_of_mem_eraseIdx hy,rfl⟩)
     refine ZjS ho hu hkd (x'6 hfit) (z'u hm σ) (by rw[z'u hk σ,v'A hky σ]) (y'4 hn hA) (by rw[x'U];exact(x'1 hfit σ hf).1) ?_
     have:=hK σ fun _ _=>rfl
     rw[←w'K (c':= .mp (es.eraseIdx q.1) c) hn hA]at this
     have e:(VB.mp (es.eraseIdx q.1) c).c σ b= .obj (v'l (x'U σ es) c (w'f σ (some q))):=by
      simp only[VB.c,v'l,w'f,y'a,x'U,List.eraseIdxIfInBounds_toArray,Zef]
     rw[e]at this
     exact this
    ·cases h
   ·cases h
  ·cases h
 ·cases h
noncomputable def Zi5 (V:Vh) (b:Nat):Option (List UInt8×Nat):=match x'T V b with
 |some (.it s p)=>some (s,p)
 |_=>none
theorem Zmt {V:Vh} {b p:Nat} {s:List UInt8} (h:Zi5 V b=some (s,p)):x'T V b=some (.it s p):=by
 unfold Zi5 at h
 split at h
 ·rename_i h1;cases h;exact h1
 ·cases h
noncomputable def Zgn (kd:Kd) (x:G) (V:Vh) (nx:Nat):Option (G×Vh×Nat):=match kd,x with
 | .str,.str s=>some (.ptr nx 0,(nx,.it s 0)::V,nx+1)
 |_,_=>none
theorem Zjz {P:Program} (T:Tab P) {o:Oper} {lo:Nat→Prop} {nx nx':Nat} {env:Env} {V V':Vh} {t:TypeId} {x:Operand} {gx g:G} (ho:o.op= .range t x) (hlo: ∀i,nx≤i→lo i) (hV:VOk lo nx V) (hx:gX env x=some gx)
  (h:Zgn (kdT (T.get t)) gx V nx=some (g,V',nx')):x'd P o lo env V nx g V' nx':=by
 unfold Zgn at h
 split at h
 ·rename_i s hkd
  cases h
  refine⟨⟨Nat.le_succ _,(hV.mono (Nat.le_succ _)).cons (hlo _ (z'c _)) (Nat.lt_succ_self _) (fun g hg=>by cases hg),Bel.ptr (hlo _ (z'c _)) (Nat.lt_succ_self _)⟩,fun σ K hn hk=>ZhV T ho ?_⟩
  rw[hkd,z'u hx σ]
  intro b hb
  have:=hk (nm1 σ nx (b,0)) x'V
  have e1:Vn (nm1 σ nx (b,0)) V=Vn σ V:=x'3 hV fun i _ hi=>x'V i hi
  simpa only[G.d,v'v,ZcC,VB.c,e1]using this
 ·cases h
noncomputable def ZiC (x:G) (V:Vh) (nx:Nat):Option (G×Vh×Nat):=match x with
 | .ptr b 0=>match Zi5 V b with
  |some (s,p)=>match gIx s p with
   |none=>some (.tup [.bool false],V,nx)
   |some c=>match Nat.blt c.toNat 128 with
    |true=>v'B (p+1) fun p'=>Zah V b (.it s p') fun V'=>some (.tup [.bool true,.int .i64 p,.int .i32 c.toNat],V',nx)
    |false=>none
  |none=>none
 |_=>none
theorem Zil {s:List UInt8} {p:Nat} {c:UInt8} (h:s[p]?=some c) (hc:c.toNat<128):Utf8.decode (y'u s) p=(c.toNat,1):=by
 have e:(y'u s).get! (p+0)=c:=by
  simp only[y'u,ByteArray.get!,y'7]
  rw[z's]at h
  obtain⟨h1,h2⟩:=h
  rw[getElem!_pos _ _ (by simpa using h1)]
  simpa using h2
 unfold Utf8.decode
 simp only[e]
 rw[if_pos (by omega)]
theorem Zkw {P:Program} {o:Oper} {lo:Nat→Prop} {nx nx':Nat} {env:Env} {V V':Vh} {x:Operand} {gx g:G} (ho:o.op= .next x true) (hV:VOk lo nx V) (hx:gX env x=some gx)
  (h:ZiC gx V nx=some (g,V',nx')):x'd P o lo env V nx g V' nx':=by
 unfold ZiC at h
 split at h
 ·rename_i b
  split at h
  ·rename_i s p hi
   have hA:=Zmt hi
   split at h
   ·rename_i hc
    rw[x'x]at hc
    cases h
    refine⟨⟨z'c _,hV,Bel.tup fun y hy=>by rw[y'h]at hy;subst hy;exact Bel.bool⟩,fun σ K hn hk=>ZgQ ho ?_⟩
    rw[z'u hx σ]
    simp only[cNext,G.d,y'4 hn hA,VB.c]
    have hb:Nat.blt p (y'u s).size=false:=by
     rw[w'y, ←Bool.not_eq_true]
     have:=List.getElem?_eq_none_iff.1 hc
     exact fun e=>absurd (Nat.blt_eq.mp e) (by omega)
    rw[hb]
    exact hk σ fun _ _=>rfl
   ·rename_i c hc
    rw[x'x]at hc
    split at h
    ·rename_i hb
     have hb:=Nat.blt_eq.mp hb
     rw[ZcW,w'z]at h
     cases h
     refine⟨⟨z'c _,ZaK hV hA (fun g hg=>by cases hg),Bel.tup fun y hy=>?_⟩,fun σ K hn hK=>?_⟩
     ·simp only[z'p,z'I,or_false]at hy
      rcases hy with rfl|rfl|rfl
      ·exact Bel.bool
      ·exact Bel.int
      ·exact Bel.int
     ·refine ZgQ ho ?_
      rw[z'u hx σ]
      simp only[cNext,G.d,y'4 hn hA,VB.c]
      have hl:Nat.blt p (y'u s).size=true:=by
       obtain⟨h1,_⟩:=z's.1 hc
       rw[w'y]
       exact Nat.blt_eq.mpr h1
      rw[hl]
      have:=hK σ fun _ _=>rfl
      rw[←w'K (c':= .it s (p+1)) hn hA]at this
      simp only[x'y,Zil hc hb]
      exact this
    ·cases h
  ·cases h
 ·cases h
end Go.Vc
