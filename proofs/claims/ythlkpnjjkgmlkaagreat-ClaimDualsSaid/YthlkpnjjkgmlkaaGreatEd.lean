/- Calls at fixed data, reckoned out: operations upon memory. No condition. -/
import Derived.Test.YthlkpnjjkgmlkaaGreatEc
import Derived.Test.YthlkpnjjkgmlkaaGreatZh
namespace Go.Vc
set_option linter.unusedSimpArgs false
set_option linter.unusedVariables false
open Go
inductive GK where
 |i (n:Int)
 |s (l:List UInt8)
def GK.v:GK→Value
 | .i n=> .int .i64 n
 | .s l=> .string (w'm l)
def dv:D→Value
 | .is v=>v
 |_=>undef
abbrev Zef:=List (GK×G×Nat)
def Zbx (σ:Nm) (e:GK×G×Nat):MapEntry:={key:=e.1.v,val:=dv (e.2.1.d σ),born:=e.2.2}
def Zac (σ:Nm) (es:Zef):Array MapEntry:=(es.map (Zbx σ)).toArray
inductive VB where
 |fix (ty n:Nat) (l:List G)
 |gro (e esz:Nat) (l:List G)
 |mp (es:Zef) (c:Nat)
 |it (s:List UInt8) (p:Nat)
abbrev Vh:=List (Nat×VB)
def VB.l:VB→List G
 | .fix _ _ l=>l
 | .gro _ _ l=>l
 | .mp es _=>es.map (·.2.1)
 | .it .. =>[]
def VB.isC:VB→Bool
 | .mp .. =>false
 | .it .. =>false
 |_=>true
def VB.put (l:List G):VB→VB
 | .fix ty n _=> .fix ty n l
 | .gro e esz _=> .gro e esz l
 | .mp es c=> .mp es c
 | .it s p=> .it s p
def VB.c (σ:Nm) (b:Nat):VB→HC
 | .fix ty n l=> .cells ty n (l.map (G.d σ))
 | .gro e esz l=> .cells e ((σ b).2*esz) (l.map (G.d σ))
 | .mp es c=> .obj (.map (Zac σ es) c)
 | .it s p=> .iter (w'm s) p
theorem VB.c_cells (σ:Nm) (b:Nat) (c:VB) (h:c.isC=true): ∃ty n, ∀l,(c.put l).c σ b= .cells ty n (l.map (G.d σ)):=by
 cases c with
 |fix ty n l=>exact⟨ty,n,fun _=>rfl⟩
 |gro e esz l=>exact⟨e,_,fun _=>rfl⟩
 |mp es c=>cases h
 |it s p=>cases h
theorem VB.put_c {c:VB} (h:c.isC=true) (l:List G):(c.put l).l=l:=by cases c<;>first|rfl|cases h
theorem VB.put_l (c:VB):c.put c.l=c:=by cases c<;>rfl
def Vn (σ:Nm) (V:Vh):Heap:=V.map fun p=>((σ p.1).1,p.2.c σ p.1)
theorem Zcf (σ:Nm) (b:Nat) (c:VB) (V:Vh):Vn σ ((b,c)::V)=((σ b).1,c.c σ b)::Vn σ V:=rfl
theorem ZkE (σ:Nm) (V W:Vh):Vn σ (V++W)=Vn σ V++Vn σ W:=z'E
def VOk (lo:Nat→Prop) (hi:Nat) (V:Vh):Prop:= ∀b c,(b,c)∈V→lo b∧b<hi∧BelL lo hi c.l
theorem VOk.mono {lo:Nat→Prop} {hi hi':Nat} {V:Vh} (h:VOk lo hi V) (k:hi≤hi'):VOk lo hi' V:=fun b c hm=>by
 obtain⟨h1,h2,h3⟩:=h b c hm
 exact⟨h1,z'K h2 k,fun g hg=>(h3 g hg).mono (fun _ _ h=>h) k⟩
theorem BelL.mono {lo:Nat→Prop} {hi hi':Nat} {l:List G} (h:BelL lo hi l) (k:hi≤hi'):BelL lo hi' l:=fun g hg=>(h g hg).mono (fun _ _ h=>h) k
theorem VB.c_congr {lo:Nat→Prop} {hi b:Nat} {c:VB} (h1:lo b) (h2:b<hi) (h:BelL lo hi c.l) {σ τ:Nm} (k: ∀i,lo i→i<hi→σ i=τ i):c.c σ b=c.c τ b:=by
 have:c.l.map (G.d σ)=c.l.map (G.d τ):=y'R fun g hg=>h g hg σ τ k
 cases c with
 |fix ty n l=>simp only[VB.c];rw[show l.map (G.d σ)=l.map (G.d τ) from this]
 |gro e esz l=>simp only[VB.c];rw[show l.map (G.d σ)=l.map (G.d τ) from this,k b h1 h2]
 |mp es c=>
  have e:es.map (Zbx σ)=es.map (Zbx τ):=y'R fun x hx=>by
   have h1:x.2.1∈VB.l (.mp es c):=z'D.2 ⟨x,hx,rfl⟩
   simp only[Zbx,h x.2.1 h1 σ τ k]
  simp only[VB.c,Zac,e]
 |it s p=>rfl
theorem Zap {lo:Nat→Prop} {hi:Nat} {V:Vh} (h:VOk lo hi V) {σ τ:Nm} (k: ∀i,lo i→i<hi→σ i=τ i):Vn σ V=Vn τ V:=
 y'R fun p hp=>by
  obtain⟨h1,h2,h3⟩:=h p.1 p.2 hp
  rw[VB.c_congr h1 h2 h3 k,k _ h1 h2]
theorem ZkN {lo:Nat→Prop} {hi:Nat} {env:Env} (h:BelE lo hi env) {σ τ:Nm} (k: ∀i,lo i→i<hi→σ i=τ i):cE σ env=cE τ env:=by
 funext t
 exact ZiK h t σ τ k
noncomputable def ZaO (V:Vh):Nat→Option VB:=List.rec (fun _=>none) (fun p _ ih b=>match Nat.beq p.1 b with|true=>some p.2|false=>ih b) V
theorem ZfG (p:Nat×VB) (V:Vh) (b:Nat):ZaO (p::V) b=match Nat.beq p.1 b with|true=>some p.2|false=>ZaO V b:=rfl
theorem Zao: ∀{V:Vh} {b:Nat} {c:VB},ZaO V b=some c→(b,c)∈V
 |[],b,c,h=>by cases h
 |p::V,b,c,h=>by
  rw[ZfG]at h
  split at h
  ·rename_i hb
   cases h
   have:=z't hb
   subst this
   exact z'z ..
  ·exact z'd _ (Zao h)
def Zew:Vh→Nat→VB→Vh
 |[],_,_=>[]
 |p::V,b,c=>match Nat.beq p.1 b with|true=>(b,c)::V|false=>p::Zew V b c
noncomputable def Zee {R:Type} (V:Vh):Nat→VB→(Vh→R)→R:=List.rec (fun _ _ k=>k []) (fun p V ih b c k=>match Nat.beq p.1 b with|true=>k ((b,c)::V)|false=>ih b c fun W=>k (p::W)) V
theorem ZbH {R:Type}: ∀(V:Vh) (b:Nat) (c:VB) (k:Vh→R),Zee V b c k=k (Zew V b c)
 |[],b,c,k=>rfl
 |p::V,b,c,k=>by
  show(match Nat.beq p.1 b with|true=>k ((b,c)::V)|false=>Zee V b c fun W=>k (p::W))=_
  rw[Zew]
  cases Nat.beq p.1 b with
  |true=>rfl
  |false=>exact ZbH V b c _
def ZdU:Vh→Nat→Vh
 |[],_=>[]
 |p::V,b=>match Nat.beq p.1 b with|true=>V|false=>p::ZdU V b
noncomputable def ZoJ {R:Type} (V:Vh):Nat→(Vh→R)→R:=List.rec (fun _ k=>k []) (fun p V ih b k=>match Nat.beq p.1 b with|true=>k V|false=>ih b fun W=>k (p::W)) V
theorem Zml {R:Type}: ∀(V:Vh) (b:Nat) (k:Vh→R),ZoJ V b k=k (ZdU V b)
 |[],b,k=>rfl
 |p::V,b,k=>by
  show(match Nat.beq p.1 b with|true=>k V|false=>ZoJ V b fun W=>k (p::W))=_
  rw[ZdU]
  cases Nat.beq p.1 b with
  |true=>rfl
  |false=>exact Zml V b _
theorem Zmm: ∀(V:Vh) (b:Nat),(ZdU V b).Sublist V
 |[],b=>z'v _
 |p::V,b=>by
  rw[ZdU]
  split
  ·exact y'H ..
  ·exact(Zmm V b).cons_cons _
theorem ZiF (σ:Nm): ∀{V:Vh} {b:Nat} {c:VB},ZaO V b=some c→(Vn σ V).Perm (((σ b).1,c.c σ b)::Vn σ (ZdU V b))
 |[],b,c,h=>by cases h
 |p::V,b,c,h=>by
  rw[ZfG]at h
  rw[ZdU]
  split at h
  ·rename_i hb
   cases h
   have:=z't hb
   subst this
   exact w'Z _
  ·rename_i hb
   exact((ZiF σ h).cons _).trans (List.Perm.swap ..)
theorem ZdV {lo:Nat→Prop} {hi:Nat} {V:Vh} {b:Nat} {c c':VB} (h:VOk lo hi V) (hg:ZaO V b=some c) (hc:BelL lo hi c'.l):VOk lo hi (Zew V b c'):=by
 obtain⟨h1,h2,_⟩:=h b c (Zao hg)
 have key: ∀W:Vh,(∀k x,(k,x)∈W→(k,x)∈V)→ ∀k x,(k,x)∈Zew W b c'→(k=b∧x=c')∨(k,x)∈V:=by
  intro W
  induction W with
  |nil=>intro _ k x hx;cases hx
  |cons p W ih=>
   intro hW k x hx
   rw[Zew]at hx
   split at hx
   ·rcases z'F.1 hx with hx|hx
    ·cases hx;exact .inl ⟨rfl,rfl⟩
    ·exact .inr (hW k x (z'd _ hx))
   ·rcases z'F.1 hx with hx|hx
    ·exact .inr (hW k x (hx▸z'z ..))
    ·exact ih (fun k x hk=>hW k x (z'd _ hk)) k x hx
 intro k x hx
 rcases key V (fun _ _ h=>h) k x hx with⟨rfl,rfl⟩|hm
 ·exact⟨h1,h2,hc⟩
 ·exact h k x hm
theorem ZtF {lo:Nat→Prop} {hi:Nat} {V:Vh} {b:Nat} (h:VOk lo hi V):VOk lo hi (ZdU V b):=fun k x hx=>h k x ((Zmm V b).subset hx)
theorem Zal (σ:Nm) (V:Vh):(Vn σ V).blocks=V.map fun p=>(σ p.1).1:=by simp[Vn,Heap.blocks]
theorem w'Y {σ:Nm} {V:Vh} {b:Nat} {c:VB} (hn:(Vn σ V).blocks.Nodup) (h:ZaO V b=some c):w'v (Vn σ V) (σ b).1=some (c.c σ b):=
 Zeo hn (z'D.2 ⟨(b,c),Zao h,rfl⟩)
theorem Zbd {σ:Nm} {b:Nat} {c':VB}: ∀{V:Vh} {c:VB},(Vn σ V).blocks.Nodup→ZaO V b=some c→hset (Vn σ V) (σ b).1 (c'.c σ b)=Vn σ (Zew V b c')
 |[],c,_,h=>by cases h
 |p::V,c,hn,h=>by
  rw[ZfG]at h
  rw[Zew]
  split at h
  ·rename_i hb
   have:=z't hb
   subst this
   exact hset_eq
  ·rename_i hb
   have hm:=Zao h
   have hne: ¬(σ p.1).1=(σ b).1:=fun e=>by
    rw[Zal,z's,x'Y]at hn
    exact hn.1 (e▸z'D.2 ⟨(b,c),hm,rfl⟩)
   show hset (((σ p.1).1,p.2.c σ p.1)::Vn σ V) _ _=_
   rw[hset_ne hne,Zbd (V:=V) (c:=c) ?_ h]
   ·rfl
   ·rw[Zal,z's,x'Y]at hn
    rw[Zal];exact hn.2
noncomputable def ZaN (V:Vh) (b:Nat):Option VB:=match ZaO V b with
 |some c=>match c.isC with|true=>some c|false=>none
 |none=>none
theorem ZeU {V:Vh} {b:Nat} {c:VB} (h:ZaN V b=some c):ZaO V b=some c∧c.isC=true:=by
 unfold ZaN at h
 split at h
 ·rename_i c1 h1
  split at h
  ·rename_i h2;cases h;exact⟨h1,h2⟩
  ·cases h
 ·cases h
theorem v'K {V:Vh} {b:Nat} {c:VB} (h:ZaN V b=some c):c.isC=true:=(ZeU h).2
theorem v'5 {V:Vh} {b:Nat} {c:VB} (h:ZaN V b=some c):(b,c)∈V:=Zao (ZeU h).1
theorem Zp9 (σ:Nm) {V:Vh} {b:Nat} {c:VB} (h:ZaN V b=some c):(Vn σ V).Perm (((σ b).1,c.c σ b)::Vn σ (ZdU V b)):=ZiF σ (ZeU h).1
theorem ZnH {lo:Nat→Prop} {hi:Nat} {V:Vh} {b:Nat} {c c':VB} (h:VOk lo hi V) (hg:ZaN V b=some c) (hc:BelL lo hi c'.l):VOk lo hi (Zew V b c'):=ZdV h (ZeU hg).1 hc
theorem v'h {σ:Nm} {V:Vh} {b:Nat} {c:VB} (hn:(Vn σ V).blocks.Nodup) (h:ZaN V b=some c):w'v (Vn σ V) (σ b).1=some (c.c σ b):=w'Y hn (ZeU h).1
theorem Zke {σ:Nm} {b:Nat} {c':VB} {V:Vh} {c:VB} (hn:(Vn σ V).blocks.Nodup) (h:ZaN V b=some c):hset (Vn σ V) (σ b).1 (c'.c σ b)=Vn σ (Zew V b c'):=Zbd hn (ZeU h).1
noncomputable def ZgT (V:Vh) (b:Nat):Option (Zef×Nat):=match ZaO V b with
 |some (.mp es c)=>some (es,c)
 |_=>none
theorem ZgU {V:Vh} {b c:Nat} {es:Zef} (h:ZgT V b=some (es,c)):ZaO V b=some (.mp es c):=by
 unfold ZgT at h
 split at h
 ·rename_i h1;cases h;exact h1
 ·cases h
noncomputable def Zfb (ty:TyI) (a:G) (V:Vh):Option G:=match ty.known with
 |false=>none
 |true=>match a with
  | .ptr b o=>match ZaN V b with
   |some c=>match ty.agg with
    |true=>match Nat.ble (o+ty.size) c.l.length with|true=>some (.agg ((c.l.drop o).take ty.size))|false=>none
    |false=>gIx c.l o
   |none=>none
  | .pt row=>match ty.agg with
   |true=>match Nat.ble ty.size row.length with|true=>some (.agg (row.take ty.size))|false=>none
   |false=>gIx row 0
  |_=>none
theorem Zle {ty:TyI} {a g:G} {V:Vh} (h:Zfb ty a V=some g) {σ:Nm} (hn:(Vn σ V).blocks.Nodup) {K:D→Prop} (hk:K (g.d σ)):cLoad ty (a.d σ) (Vn σ V) K:=by
 unfold Zfb at h
 unfold cLoad
 split at h
 ·cases h
 ·rename_i hkn
  rw[hkn]
  split at h
  ·rename_i b o
   split at h
   ·rename_i c hc
    have hg:=v'h hn hc
    obtain⟨ty',n',hcc⟩:=VB.c_cells σ b c (v'K hc)
    have hcc':=hcc c.l
    rw[VB.put_l]at hcc'
    simp only[G.d,hg,hcc']
    split at h
    ·rename_i ha
     split at h
     ·rename_i hb
      cases h
      rw[ha]
      simp only[z'm]
      exact⟨z'J hb,by rw[←List.map_drop, ←List.map_take, ←G.dl_eq];exact hk⟩
     ·cases h
    ·rename_i ha
     rw[ha]
     rw[v'F]at h
     exact⟨g.d σ,by rw[y'c,h];rfl,hk⟩
   ·cases h
  ·rename_i row
   simp only[G.d,G.dl_eq]
   split at h
   ·rename_i ha
    split at h
    ·rename_i hb
     cases h
     rw[ha]
     simp only[z'm]
     exact⟨z'J hb,by rw[←List.map_take, ←G.dl_eq];exact hk⟩
    ·cases h
   ·rename_i ha
    rw[ha]
    rw[v'F]at h
    exact⟨g.d σ,by rw[y'c,h];rfl,hk⟩
  ·cases h
theorem ZjE {ty:TyI} {a g:G} {V:Vh} (h:Zfb ty a V=some g) {lo:Nat→Prop} {hi:Nat} (ha:Bel lo hi a) (hV:VOk lo hi V):Bel lo hi g:=by
 unfold Zfb at h
 split at h
 ·cases h
 ·split at h
  ·split at h
   ·rename_i c hc
    have hb:=(hV _ _ (v'5 hc)).2.2
    split at h
    ·split at h
     ·cases h;exact Bel.agg ((hb.drop _).take _)
     ·cases h
    ·rw[v'F]at h;exact hb.at h
   ·cases h
  ·split at h
   ·split at h
    ·cases h;exact Bel.agg (ha.pt_l.take _)
    ·cases h
   ·rw[v'F]at h;exact ha.pt_l.at h
  ·cases h
def v'j (P:Program) (o:Oper) (lo:Nat→Prop) (env:Env) (V:Vh) (nx:Nat) (g:G) (V':Vh) (nx':Nat):Prop:=
 (nx≤nx'∧VOk lo nx' V'∧Bel lo nx' g)∧ ∀(σ:Nm) (K:D→Heap→Prop),(Vn σ V).blocks.Nodup→(∀σ':Nm,(∀i,i<nx→σ' i=σ i)→K (g.d σ') (Vn σ' V'))→Op1 P o (evD (cE σ env)) (Vn σ V) K
def nm1 (σ:Nm) (nx:Nat) (p:Nat×Nat):Nm:=fun i=>bif Nat.beq i nx then p else σ i
theorem Zaf {σ:Nm} {nx:Nat} {p:Nat×Nat}: ∀i,i<nx→nm1 σ nx p i=σ i:=fun i h=>by
 have:Nat.beq i nx=false:=by
  rw[←Bool.not_eq_true];intro hb;have:=z't hb;omega
 simp only[nm1,this,cond_false]
theorem Zgc {σ:Nm} {nx:Nat} {p:Nat×Nat}:nm1 σ nx p nx=p:=by
 simp only[nm1,v'u,cond_true]
theorem VOk.cons {lo:Nat→Prop} {hi b:Nat} {c:VB} {V:Vh} (h:VOk lo hi V) (h1:lo b) (h2:b<hi) (h3:BelL lo hi c.l):VOk lo hi ((b,c)::V):=fun k x hx=>by
 rcases z'F.1 hx with hx|hx
 ·cases hx;exact⟨h1,h2,h3⟩
 ·exact h k x hx
theorem BelL.dls {lo:Nat→Prop} {hi:Nat} {l:List G} (h:BelL lo hi l) {σ τ:Nm} (k: ∀i,lo i→i<hi→σ i=τ i):l.map (G.d σ)=l.map (G.d τ):=y'R fun g hg=>h g hg σ τ k
noncomputable def ZfO (t:TypeId) (ty:TyI) (V:Vh) (nx:Nat):Option (G×Vh×Nat):=match ty.known with
 |false=>none
 |true=>match ZcG ty.zero with
  |some z=>match z.all Zff with|true=>some (.ptr nx 0,(nx,.fix t z.length z)::V,nx+1)|false=>none
  |none=>none
noncomputable def Zk5 (t:TypeId) (x:G) (V:Vh) (nx:Nat):Option (G×Vh×Nat):=match ZfQ x with
 |some l=>match l.all Zff with|true=>some (.ptr nx 0,(nx,.fix t l.length l)::V,nx+1)|false=>none
 |none=>none
theorem ZpB {P:Program} {o:Oper} {lo:Nat→Prop} {nx:Nat} {env:Env} {V:Vh} {t:TypeId} {l:List G} (hlo: ∀i,nx≤i→lo i) (hV:VOk lo nx V) (hl:BelL lo nx l)
  (h: ∀(σ:Nm) (K:D→Heap→Prop),(∀b,b∉(Vn σ V).blocks→K (.is (.pointer (some ⟨b,0,none⟩))) ((b,.cells t l.length (l.map (G.d σ)))::Vn σ V))→Op1 P o (evD (cE σ env)) (Vn σ V) K):
  v'j P o lo env V nx (.ptr nx 0) ((nx,.fix t l.length l)::V) (nx+1):=by
 refine⟨⟨Nat.le_succ _,(hV.mono (Nat.le_succ _)).cons (hlo _ (z'h _)) (Nat.lt_succ_self _) (hl.mono (Nat.le_succ _)),Bel.ptr (hlo _ (z'h _)) (Nat.lt_succ_self _)⟩,fun σ K hn hk=>h σ K fun b hb=>?_⟩
 have:=hk (nm1 σ nx (b,0)) Zaf
 have e1:Vn (nm1 σ nx (b,0)) V=Vn σ V:=Zap hV fun i _ hi=>Zaf i hi
 have e2:l.map (G.d (nm1 σ nx (b,0)))=l.map (G.d σ):=hl.dls fun i _ hi=>Zaf i hi
 simpa only[G.d,Zcf,Zgc,VB.c,e1,e2]using this
theorem ZjC {P:Program} (T:Tab P) {o:Oper} {lo:Nat→Prop} {nx nx':Nat} {env:Env} {V V':Vh} {t:TypeId} {g:G} (ho:o.op= .alloc t) (hlo: ∀i,nx≤i→lo i) (hV:VOk lo nx V)
  (h:ZfO t (T.get t) V nx=some (g,V',nx')):v'j P o lo env V nx g V' nx':=by
 unfold ZfO at h
 split at h
 ·cases h
 ·rename_i hk
  split at h
  ·rename_i z hz
   split at h
   ·rename_i ha
    cases h
    refine ZpB hlo hV (ZbO hz) fun σ K hK=>Znj T ho ?_
    have e:=Zcs hz σ
    have el:(T.get t).zero.length=z.length:=by have:=congrArg List.length e;simpa using this
    simp only[cAlloc,hk,e,el]
    exact⟨Zbz ha σ,hK⟩
   ·cases h
  ·cases h
theorem ZmT {P:Program} {o:Oper} {lo:Nat→Prop} {nx nx':Nat} {env:Env} {V V':Vh} {t:TypeId} {x:Operand} {gx g:G} (ho:o.op= .box t x) (hlo: ∀i,nx≤i→lo i) (hV:VOk lo nx V) (he:BelE lo nx env) (hx:gX env x=some gx)
  (h:Zk5 t gx V nx=some (g,V',nx')):v'j P o lo env V nx g V' nx':=by
 unfold Zk5 at h
 split at h
 ·rename_i l hl
  split at h
  ·rename_i ha
   cases h
   refine ZpB hlo hV (Ze9 hl (x'7 hx he)) fun σ K hK=>Zr8 ho ?_
   rw[z'3 hx]
   simp only[cBox,ZfR hl σ,z'm]
   exact⟨Zbz ha σ,hK⟩
  ·cases h
 ·cases h
noncomputable def Zig (known:Bool) (sz:Nat) (a x:G) (V:Vh) (nx:Nat):Option (G×Vh×Nat):=match known with
 |false=>none
 |true=>match a,ZfQ x with
  | .ptr b o,some c=>match ZaN V b with
   |some bl=>match c.all Zff&&(Nat.beq c.length sz&&Nat.ble (o+sz) bl.l.length)with
    |true=>Zaq (Zfk bl.l o c) fun l=>Zee V b (bl.put l) fun V'=>some (.val undef,V',nx)
    |false=>none
   |none=>none
  |_,_=>none
theorem Zpm {P:Program} (T:Tab P) {o:Oper} {lo:Nat→Prop} {nx nx':Nat} {env:Env} {V V':Vh} {t:TypeId} {a x:Operand} {ga gx g:G} (ho:o.op= .store t a x) (hV:VOk lo nx V) (he:BelE lo nx env) (ha:gX env a=some ga)
  (hx:gX env x=some gx) (h:Zig (T.get t).known (T.get t).size ga gx V nx=some (g,V',nx')):v'j P o lo env V nx g V' nx':=by
 unfold Zig at h
 split at h
 ·cases h
 ·rename_i hk
  split at h
  ·rename_i b off c hc
   split at h
   ·rename_i bl hbl
    split at h
    ·rename_i hb
     simp only[w'n,ZbH,z'H,Prod.mk.injEq]at h
     obtain⟨rfl,rfl,rfl⟩:=h
     rw[z'f,z'f]at hb
     obtain⟨h1,h2,h3⟩:=hb
     have hbel:=(hV _ _ (v'5 hbl)).2.2
     have hcb:=Ze9 hc (x'7 hx he)
     have hput: ∀l,(bl.put l).l=l:=VB.put_c (v'K hbl)
     refine⟨⟨z'h _,ZnH hV hbl (by rw[hput];exact Zd5 _ _ _ hbel hcb),Bel.val⟩,fun σ K hn hk'=>Znq T ho hk ?_⟩
     rw[z'3 ha,z'3 hx]
     obtain⟨ty',n',hcc⟩:=VB.c_cells σ b bl (v'K hbl)
     have hcc':=hcc bl.l
     rw[VB.put_l]at hcc'
     simp only[G.d,cStore,ZfR hc σ,v'h hn hbl,hcc',z'm]
     refine⟨⟨Zbz h1 σ,z't h2,z'J h3⟩,?_⟩
     rw[Zfl, ←hcc,Zke hn hbl]
     exact hk' σ fun _ _=>rfl
    ·cases h
   ·cases h
  ·cases h
noncomputable def Zia (kd:Kd) (l c:G) (V:Vh) (nx:Nat):Option (G×Vh×Nat):=match kd,l,c with
 | .slice e esz eb _ ez,.int _ (.ofNat a),.int _ (.ofNat b)=>match Nat.beq a b&&(Nat.ble (a*eb) 281474976710656&&Nat.ble a 9223372036854775807),ZcG ez with
  |true,some z=>match z.all Zff with
   |true=>Zaq (List.replicate a z).flatten fun l=>some (.own nx a,(nx,.gro e esz l)::V,nx+1)
   |false=>none
  |_,_=>none
 |_,_,_=>none
theorem Zlf {P:Program} (T:Tab P) {o:Oper} {lo:Nat→Prop} {nx nx':Nat} {env:Env} {V V':Vh} {t:TypeId} {l c:Operand} {gl gc g:G} (ho:o.op= .makeSlice t l c) (hlo: ∀i,nx≤i→lo i) (hV:VOk lo nx V) (h1:gX env l=some gl)
  (h2:gX env c=some gc) (h:Zia (kdT (T.get t)) gl gc V nx=some (g,V',nx')):v'j P o lo env V nx g V' nx':=by
 unfold Zia at h
 split at h
 ·rename_i e esz eb ea ez k1 a k2 b hkd
  split at h
  ·rename_i z hb hz
   split at h
   ·rename_i ha
    simp only[w'n,z'H,Prod.mk.injEq]at h
    obtain⟨rfl,rfl,rfl⟩:=h
    rw[z'f,z'f]at hb
    obtain⟨b1,b2,b3⟩:=hb
    obtain rfl:=z't b1
    have hzb:BelL lo nx (List.replicate a z).flatten:=fun g hg=>by
     obtain⟨r,hr,hg⟩:=List.mem_flatten.1 hg
     exact ZbO hz g ((List.mem_replicate.1 hr).2▸hg)
    refine⟨⟨Nat.le_succ _,(hV.mono (Nat.le_succ _)).cons (hlo _ (z'h _)) (Nat.lt_succ_self _) (hzb.mono (Nat.le_succ _)),Bel.own (hlo _ (z'h _)) (Nat.lt_succ_self _)⟩,fun σ K hn hk=>ZlX T ho ?_⟩
    rw[z'3 h1,z'3 h2,hkd]
    have ez':=Zcs hz σ
    simp only[G.d,cMake,Int.ofNat_eq_natCast,z'e,ez']
    refine⟨⟨by omega,trivial,z'J b2,by have:=z'J b3;omega,Zbz ha σ⟩,fun k hkH=>?_⟩
    have:=hk (nm1 σ nx (k,a)) Zaf
    have e1:Vn (nm1 σ nx (k,a)) V=Vn σ V:=Zap hV fun i _ hi=>Zaf i hi
    have e2:(List.replicate a z).flatten.map (G.d (nm1 σ nx (k,a)))=Zbo a ez:=by
     rw[hzb.dls (τ:=σ) fun i _ hi=>Zaf i hi]
     unfold Zbo
     rw[ez']
     simp[List.map_flatten]
    simpa only[G.d,Zcf,Zgc,VB.c,e1,e2]using this
   ·cases h
  ·cases h
 ·cases h
def ZiV:List G→Option (List Value)
 |[]=>some []
 | .int k n::r=>match ZiV r with|some l=>some (.int k n::l)|none=>none
 | .bool b::r=>match ZiV r with|some l=>some (.bool b::l)|none=>none
 | .str s::r=>match ZiV r with|some l=>some (.string (w'm s)::l)|none=>none
 |_::_=>none
def gEx:G→Option Value
 | .int k n=>some (.int k n)
 | .bool b=>some (.bool b)
 | .str s=>some (.string (w'm s))
 | .agg l=>match ZiV l with|some vs=>some (.agg vs.toArray)|none=>none
 | .fn f []=>some (.func (.func f) #[] #[])
 |_=>none
theorem ZmW (σ:Nm): ∀{l:List G} {vs:List Value},ZiV l=some vs→l.map (G.d σ)=vs.map D.is
 |[],vs,h=>by cases h;rfl
 |g::r,vs,h=>by
  cases g<;>simp only[ZiV]at h<;>first|(cases h;done)|skip
  all_goals
   split at h
   ·rename_i l hl;cases h;rw[z's,z's,ZmW σ hl];rfl
   ·cases h
theorem ZlF: ∀vs:List Value,(vs.map D.is).mapM isV=some vs
 |[]=>rfl
 |v::r=>by rw[z's,v'n,ZlF r];rfl
theorem ZtZ {g:G} {v:Value} (h:gEx g=some v) (σ:Nm):ZeB (g.d σ)=some v:=by
 unfold gEx at h
 split at h
 ·cases h;rfl
 ·cases h;rfl
 ·cases h;rfl
 case h_5=>cases h;rfl
 case h_6=>cases h
 split at h
 ·rename_i l vs hl
  cases h
  simp only[G.d,G.dl_eq,ZeB,ZmW σ hl,ZlF,y'D]
 ·cases h
def ZfX:List Value→Option (List G)
 |[]=>some []
 | .int k n::r=>match ZfX r with|some l=>some (.int k n::l)|none=>none
 | .bool b::r=>match ZfX r with|some l=>some (.bool b::l)|none=>none
 | .string s::r=>match ZfX r with|some l=>some (.str s.data.toList::l)|none=>none
 |_::_=>none
def gPv:Value→Option G
 | .int k n=>some (.int k n)
 | .bool b=>some (.bool b)
 | .string s=>some (.str s.data.toList)
 | .agg cs=>match ZfX cs.toList with|some l=>some (.agg l)|none=>none
 | .func (.func f) bs cs=>match bs.toList,cs.toList with|[],[]=>some (.fn f [])|_,_=>none
 | .map none=>some (.val (.map none))
 |_=>none
theorem Zm2 (σ : Nm) : ∀ {vs : List Value} {l : List G}, ZfX vs = some l → vs.map D.is = l.map (G.d σ)
  | [], l, h => by cases h; rfl
  | v :: r, l, h => by
    unfold ZfX at h
    split at h
    · rename_i e; cases e
    all_goals first
      | (cases h; done)
      | (rename_i e
         cases e
         split at h
         · rename_i l' hl; cases h; rw [z's, z's, Zm2 σ hl]; rfl
         · cases h)
theorem ZfY {v:Value} {g:G} (h:gPv v=some g) (σ:Nm):Zgt v=g.d σ:=by
 unfold gPv at h
 split at h
 ·cases h;rfl
 ·cases h;rfl
 ·cases h;rfl
 ·split at h
  ·rename_i l hl
   cases h
   simp only[G.d,G.dl_eq,Zgt,Zm2 σ hl]
  ·cases h
 ·rename_i f bs cs
  split at h
  ·rename_i hb hc
   cases h
   have e1:bs= #[]:=by rw[←y'h];exact hb
   have e2:cs= #[]:=by rw[←y'h];exact hc
   subst e1;subst e2
   rfl
  ·cases h
 ·cases h;rfl
 ·cases h
theorem Zi2 {v:Value} {g:G} (h:gPv v=some g) {lo:Nat→Prop} {hi:Nat}:Bel lo hi g:=fun σ τ _=>(ZfY h σ).symm.trans (ZfY h τ)
theorem Zi3 {v : Value} {g : G} (h : gPv v = some g) : ∀ cs, v = .agg cs → cs.toList.all Value.oneCell' = true := by
  rintro cs rfl
  simp only [gPv] at h
  split at h
  · rename_i l hl
    have key : ∀ {vs : List Value} {l : List G}, ZfX vs = some l → vs.all Value.oneCell' = true := by
      intro vs
      induction vs with
      | nil => intro _ _; rfl
      | cons v r ih =>
        intro l h
        unfold ZfX at h
        split at h
        · rename_i e; cases e
        all_goals first
          | (cases h; done)
          | (rename_i e
             cases e
             split at h
             · rename_i l' hl; rw [y'x, ih hl]; rfl
             · cases h)
    exact key hl
  · cases h
def Zlc:G→Option GK
 | .int .i64 n=>some (.i n)
 | .str l=>some (.s l)
 |_=>none
theorem Zcp {g:G} {k:GK} (h:Zlc g=some k) (σ:Nm):g.d σ= .is k.v:=by
 unfold Zlc at h
 split at h<;>cases h<;>rfl
def Zd7:TypeDesc→GK→Bool
 | .int _,.i _=>true
 | .string,.s _=>true
 |_,_=>false
theorem Zat {kd:TypeDesc} {k:GK} (h:Zd7 kd k=true):ZgK kd=true:=by
 cases kd<;>cases k<;>first|rfl|cases h
noncomputable def ZqJ:GK→GK→Option Bool
 | .i a,.i b=>some (decide (a=b))
 | .s a,.s b=>some (eqB a b)
 |_,_=>none
theorem ZkL (a b:List UInt8):(w'm a == w'm b)=decide (a=b):=by
 rw[beq_toListBytes,ByteArray.toList_eq,ByteArray.toList_eq]
 show(a == b)=decide (a=b)
 by_cases e:a=b<;>simp[e]
theorem ZmZ {kd:TypeDesc} {a b:GK} {r:Bool} (hk:Zd7 kd a=true) (h:ZqJ a b=some r):Instr.sameNow kd a.v b.v=some r∧(r=true→b=a):=by
 cases a<;>cases b<;>simp only[ZqJ,z'H,reduceCtorEq]at h
 ·cases kd<;>simp only[Zd7,x'c]at hk
  subst h
  refine⟨?_,fun h=>by rw[of_decide_eq_true h]⟩
  simp only[GK.v,Instr.sameNow,if_true]
  rfl
 ·cases kd<;>simp only[Zd7,x'c]at hk
  subst h
  rw[ZhY]
  refine⟨?_,fun h=>by rw[of_decide_eq_true h]⟩
  simp only[GK.v,Instr.sameNow]
  rw[ZkL]
noncomputable def ZeE (k:GK):Zef→Nat→Option (Option (Nat×G))
 |[],_=>some none
 |e::r,i=>match ZqJ k e.1 with
  |some true=>some (some (i,e.2.1))
  |some false=>ZeE k r (i+1)
  |none=>none
def ZaF (σ:Nm) (p:Option (Nat×G)):Option (Nat×Value):=p.map fun q=>(q.1,dv (q.2.d σ))
theorem Zam {kd:TypeDesc} {k:GK} (hk:Zd7 kd k=true) (σ:Nm): ∀{es:Zef} {i:Nat} {p:Option (Nat×G)},ZeE k es i=some p→Instr.findNow kd k.v (es.map (Zbx σ)) i=some (ZaF σ p)∧ ∀q,p=some q→i≤q.1∧ ∃e,es[q.1-i]?=some e∧e.1=k∧e.2.1=q.2
 |[],i,p,h=>by cases h;exact⟨rfl,fun q hq=>by cases hq⟩
 |e::r,i,p,h=>by
  unfold ZeE at h
  split at h
  ·rename_i hq
   cases h
   obtain⟨h1,h2⟩:=ZmZ hk hq
   refine⟨?_,fun q hq=>?_⟩
   ·simp only[z's,Instr.findNow,Zbx,h1];rfl
   ·cases hq
    exact⟨z'h _,e,by simp,h2 rfl,rfl⟩
  ·rename_i hq
   obtain⟨h1,_⟩:=ZmZ hk hq
   obtain⟨k1,k2⟩:=Zam hk σ h
   refine⟨?_,fun q hq=>?_⟩
   ·simp only[z's,Instr.findNow,Zbx,h1];exact k1
   ·obtain⟨q1,e',q2,q3⟩:=k2 q hq
    refine⟨by omega,e',?_,q3⟩
    rw[show q.1-i=(q.1-(i+1))+1 by omega,x'4]
    exact q2
  ·cases h
def gVE:G→Option G
 | .mp b=>some (.mp b)
 |g=>match gEx g with|some v=>some (.val v)|none=>none
theorem Zpn {g u:G} (h:gVE g=some u) (σ:Nm):ZeB (g.d σ)=some (dv (u.d σ)):=by
 unfold gVE at h
 split at h
 ·cases h;rfl
 ·split at h
  ·rename_i v hv;cases h;exact ZtZ hv σ
  ·cases h
theorem ZsH {g u:G} (h:gVE g=some u) {lo:Nat→Prop} {hi:Nat} (hg:Bel lo hi g):Bel lo hi u:=by
 unfold gVE at h
 split at h
 ·cases h;exact hg
 ·split at h
  ·cases h;exact Bel.val
  ·cases h
def Zfe (k:GK) (u:G):Zef→Nat→Zef
 |[],_=>[]
 |e::r,0=>(k,u,e.2.2)::r
 |e::r,i+1=>e::Zfe k u r i
theorem Zli (σ:Nm) (k:GK) (u:G): ∀(es:Zef) (i:Nat),(Zfe k u es i).map (Zbx σ)=(es.map (Zbx σ)).modify i fun e=>{e with key:=k.v,val:=dv (u.d σ)}
 |[],i=>by cases i<;>rfl
 |e::r,0=>rfl
 |e::r,i+1=>by
  simp only[Zfe,z's,List.modify_succ_cons,Zli σ k u r i]
theorem ZjF {k:GK} {u:G} {x:G}: ∀{es:Zef} {i:Nat},x∈(Zfe k u es i).map (·.2.1)→x=u∨x∈es.map (·.2.1)
 |[],i,h=>by cases i<;>exact .inr h
 |e::r,0,h=>by
  rcases z'F.1 h with h|h
  ·exact .inl h
  ·exact .inr (z'd _ h)
 |e::r,i+1,h=>by
  rcases z'F.1 h with h|h
  ·exact .inr (h▸z'z ..)
  ·rcases ZjF h with h|h
   ·exact .inl h
   ·exact .inr (z'd _ h)
noncomputable def ZgD (P:Program) (t:TypeId) (m k v:G) (V:Vh) (nx:Nat):Option (G×Vh×Nat):=match P.underlying t with
 |some (.map kt _)=>match P.underlying kt,m,Zlc k with
  |some kd,.mp b,some k=>match Zd7 kd k,ZgT V b,gVE v with
   |true,some (es,c),some u=>match ZeE k es 0 with
    |some none=>Zcq (c+1) fun c'=>Zee V b (.mp (es++[(k,u,c)]) c') fun V'=>some (.val undef,V',nx)
    |some (some q)=>Zee V b (.mp (Zfe k u es q.1) c) fun V'=>some (.val undef,V',nx)
    |none=>none
   |_,_,_=>none
  |_,_,_=>none
 |_=>none
theorem Zib {P:Program} {o:Oper} {lo:Nat→Prop} {nx nx':Nat} {env:Env} {V V':Vh} {t:TypeId} {m k v:Operand} {gm gk gv g:G} (ho:o.op= .mapUpdate t m k v∨o.op= .insert t m k v) (hV:VOk lo nx V) (he:BelE lo nx env) (hm:gX env m=some gm) (hk:gX env k=some gk)
  (hv:gX env v=some gv) (h:ZgD P t gm gk gv V nx=some (g,V',nx')):v'j P o lo env V nx g V' nx':=by
 unfold ZgD at h
 split at h
 ·rename_i kt et hu
  split at h
  ·rename_i kd b ky hkd hky
   split at h
   ·rename_i es c u hfit hl hu'
    have hA:=ZgU hl
    have hbu:=ZsH hu' (x'7 hv he)
    have hbe:BelL lo nx (VB.l (.mp es c)):=(hV _ _ (Zao hA)).2.2
    split at h
    ·rename_i hf
     rw[ZgE,ZbH]at h
     cases h
     refine⟨⟨z'h _,ZdV hV hA (fun x hx=>?_),Bel.val⟩,fun σ K hn hK=>?_⟩
     ·rw[VB.l,z'E]at hx
      rcases y'2.1 hx with hx|hx
      ·exact hbe x hx
      ·rw[z's,y'Q,y'F]at hx;subst hx;exact hbu
     refine ZpK ho hu hkd (Zat hfit) (z'3 hm σ) (by rw[z'3 hk σ,Zcp hky σ]) (by rw[z'3 hv];exact Zpn hu' σ) (w'Y hn hA) (by rw[Zac];exact(Zam hfit σ hf).1) (fun q hq=>by cases hq) ?_
     have:=hK σ fun _ _=>rfl
     rw[←Zbd (c':= .mp (es++[(ky,u,c)]) (c+1)) hn hA]at this
     have e:(VB.mp (es++[(ky,u,c)]) (c+1)).c σ b= .obj (Zbk (Zac σ es) c ky.v (dv (u.d σ)) (ZaF σ none)):=by
      simp only[VB.c,Zbk,ZaF,x'M,Zac,z'E,z's,y'Q,List.push_toArray,Zbx]
     rw[e]at this
     exact this
    ·rename_i q hf
     rw[ZbH]at h
     cases h
     refine⟨⟨z'h _,ZdV hV hA (fun x hx=>?_),Bel.val⟩,fun σ K hn hK=>?_⟩
     ·rcases ZjF hx with hx|hx
      ·exact hx▸hbu
      ·exact hbe x hx
     obtain⟨f1,f2⟩:=Zam hfit σ hf
     obtain⟨_,e0,e1,e2,_⟩:=f2 q rfl
     refine ZpK ho hu hkd (Zat hfit) (z'3 hm σ) (by rw[z'3 hk σ,Zcp hky σ]) (by rw[z'3 hv];exact Zpn hu' σ) (w'Y hn hA) (by rw[Zac];exact f1) (fun q' hq=>?_) ?_
     ·cases hq
      rw[Nat.sub_zero]at e1
      have:(Zac σ es)[q.1]?=some (Zbx σ e0):=by simp[Zac,e1]
      simp only[this,y'D,z'y,Zbx,e2]
      cases ky with
      |i n=>simp[GK.v,Instr.sameBits]
      |s l=>simp[GK.v,Instr.sameBits,ZkL]
     have:=hK σ fun _ _=>rfl
     rw[←Zbd (c':= .mp (Zfe ky u es q.1) c) hn hA]at this
     have e:(VB.mp (Zfe ky u es q.1) c).c σ b= .obj (Zbk (Zac σ es) c ky.v (dv (u.d σ)) (ZaF σ (some q))):=by
      simp only[VB.c,Zbk,ZaF,y'D,Zac,Zli]
      congr 2
      rw[←y'h,Array.toList_modify]
     rw[e]at this
     exact this
    ·cases h
   ·cases h
  ·cases h
 ·cases h
def lkR (ok q:Bool) (g:G):G:=match ok with|true=> .tup [g,.bool q]|false=>g
theorem ZlC {σ:Nm} {ok:Bool} {v:Value} {q:Bool} {g:G} (h:Zgt v=g.d σ):Zcu ok (v,q)=(lkR ok q g).d σ:=by
 cases ok
 ·exact h
 ·simp only[Zcu,lkR,G.d,G.dl,h]
theorem Zja {ok q:Bool} {g:G} {lo:Nat→Prop} {hi:Nat} (h:Bel lo hi g):Bel lo hi (lkR ok q g):=by
 cases ok
 ·exact h
 ·refine Bel.tup fun x hx=>?_
  rcases z'F.1 hx with rfl|hx
  ·exact h
  ·rw[y'F]at hx;subst hx;exact Bel.bool
def Zh2:G→Option G
 | .mp b=>some (.mp b)
 | .val v=>gPv v
 |_=>none
theorem Zqz {u g:G} (h:Zh2 u=some g) (σ:Nm):Zgt (dv (u.d σ))=g.d σ∧ ∀cs,dv (u.d σ)= .agg cs→cs.toList.all Value.oneCell'=true:=by
 unfold Zh2 at h
 split at h
 ·cases h;exact⟨rfl,fun cs hc=>by cases hc⟩
 ·exact⟨ZfY h σ,Zi3 h⟩
 ·cases h
theorem Zo9 {u g:G} (h:Zh2 u=some g) {lo:Nat→Prop} {hi:Nat} (hu:Bel lo hi u):Bel lo hi g:=by
 unfold Zh2 at h
 split at h
 ·cases h;exact hu
 ·exact Zi2 h
 ·cases h
noncomputable def ZgC (P:Program) (t:TypeId) (m k:G) (ok:Bool) (V:Vh):Option G:=match P.underlying t with
 |some (.map kt et)=>match P.underlying kt,Zlc k,(P.info? et).bind (·.zero)with
  |some kd,some k,some z=>match Zd7 kd k with
   |true=>match m with
    | .mp b=>match ZgT V b with
     |some (es,_)=>match ZeE k es 0 with
      |some (some q)=>match Zh2 q.2 with|some g=>some (lkR ok true g)|none=>none
      |some none=>match gPv z with|some g=>some (lkR ok false g)|none=>none
      |none=>none
     |none=>none
    | .val (.map none)=>match gPv z with|some g=>some (lkR ok false g)|none=>none
    |_=>none
   |false=>none
  |_,_,_=>none
 |_=>none
theorem Zh9 {P:Program} {o:Oper} {lo:Nat→Prop} {nx:Nat} {env:Env} {V:Vh} {t:TypeId} {m k:Operand} {gm gk g:G} {ok:Bool} (ho:o.op= .lookup t m k ok) (hV:VOk lo nx V) (hm:gX env m=some gm) (hk:gX env k=some gk)
  (h:ZgC P t gm gk ok V=some g):Bel lo nx g∧ ∀(σ:Nm) (K:D→Heap→Prop),(Vn σ V).blocks.Nodup→K (g.d σ) (Vn σ V)→Op1 P o (evD (cE σ env)) (Vn σ V) K:=by
 unfold ZgC at h
 split at h
 ·rename_i kt et hu
  split at h
  ·rename_i kd ky z hkd hky hz
   split at h
   ·rename_i hfit
    split at h
    ·rename_i b
     split at h
     ·rename_i es c hl
      have hA:=ZgU hl
      have hbe:BelL lo nx (VB.l (.mp es c)):=(hV _ _ (Zao hA)).2.2
      split at h
      ·rename_i q hf
       split at h
       ·rename_i g' hg
        cases h
        obtain⟨_,f2⟩:=Zam hfit (fun _=>(0,0)) hf
        obtain⟨_,e0,e1,_,e3⟩:=f2 q rfl
        refine⟨Zja (Zo9 hg (hbe _ (z'D.2 ⟨e0,z'l e1,e3⟩))),fun σ K hn hK=>?_⟩
        obtain⟨b1,b2⟩:=Zqz hg σ
        refine Znn (p:=ZaF σ (some q)) ho hu hkd (Zat hfit) hz (z'3 hm σ) (by rw[z'3 hk σ,Zcp hky σ]) (w'Y hn hA) (by rw[Zac];exact(Zam hfit σ hf).1) b2 ?_
        rw[show ZaU z (ZaF σ (some q))=(dv (q.2.d σ),true) from rfl,ZlC b1]
        exact hK
       ·cases h
      ·rename_i hf
       split at h
       ·rename_i g' hg
        cases h
        refine⟨Zja (Zi2 hg),fun σ K hn hK=>?_⟩
        refine Znn (p:=ZaF σ none) ho hu hkd (Zat hfit) hz (z'3 hm σ) (by rw[z'3 hk σ,Zcp hky σ]) (w'Y hn hA) (by rw[Zac];exact(Zam hfit σ hf).1) (Zi3 hg) ?_
        rw[show ZaU z (ZaF σ none)=(z,false) from rfl,ZlC (ZfY hg σ)]
        exact hK
       ·cases h
      ·cases h
     ·cases h
    ·split at h
     ·rename_i g' hg
      cases h
      refine⟨Zja (Zi2 hg),fun σ K hn hK=>?_⟩
      refine Ztk ho hu hkd (Zat hfit) hz (z'3 hm σ) (by rw[z'3 hk σ,Zcp hky σ]) (Zi3 hg) ?_
      rw[ZlC (ZfY hg σ)]
      exact hK
     ·cases h
    ·cases h
   ·cases h
  ·cases h
 ·cases h
noncomputable def Zhw (P:Program) (t:TypeId) (r:Option G) (V:Vh) (nx:Nat):Option (G×Vh×Nat):=match P.underlying t with
 |some (.map _ _)=>match r with
  |none=>some (.mp nx,(nx,.mp [] 0)::V,nx+1)
  |some (.int _ _)=>some (.mp nx,(nx,.mp [] 0)::V,nx+1)
  |_=>none
 |_=>none
theorem Zmx {P:Program} {o:Oper} {lo:Nat→Prop} {nx nx':Nat} {env:Env} {V V':Vh} {t:TypeId} {r:Option Operand} {gr:Option G} {g:G} (ho:o.op= .makeMap t r) (hlo: ∀i,nx≤i→lo i) (hV:VOk lo nx V) (hr:gXo env r=some gr)
  (h:Zhw P t gr V nx=some (g,V',nx')):v'j P o lo env V nx g V' nx':=by
 unfold Zhw at h
 split at h
 ·rename_i kt et hu
  have key: ∀(hx: ∀σ:Nm, ∀x,r=some x→ ∃k n,evD (cE σ env) x= .is (.int k n)),v'j P o lo env V nx (.mp nx) ((nx,.mp [] 0)::V) (nx+1):=fun hx=>by
   refine⟨⟨Nat.le_succ _,(hV.mono (Nat.le_succ _)).cons (hlo _ (z'h _)) (Nat.lt_succ_self _) (fun g hg=>by cases hg),Bel.mp (hlo _ (z'h _)) (Nat.lt_succ_self _)⟩,fun σ K hn hk=>ZpI ho hu (hx σ) fun b hb=>?_⟩
   have:=hk (nm1 σ nx (b,0)) Zaf
   have e1:Vn (nm1 σ nx (b,0)) V=Vn σ V:=Zap hV fun i _ hi=>Zaf i hi
   simp only[G.d,Zcf,Zgc,VB.c,e1]at this
   exact this
  split at h
  ·cases h
   refine key fun σ x hx=>?_
   subst hx
   have:=Zf2 hr σ
   cases this
  ·cases h
   rename_i k n
   refine key fun σ x hx=>?_
   subst hx
   have:=Zf2 hr σ
   simp only[y'D,z'H]at this
   exact⟨_,_,this⟩
  ·cases h
 ·cases h
noncomputable def Zn9 (P:Program) (t:TypeId) (b:Nat) (V:Vh) (nx:Nat):Option (G×Vh×Nat):=match P.underlying t,ZgT V b with
 |some (.map _ _),some (es,_)=>some (.int .i64 es.length,V,nx)
 |_,_=>none
theorem ZqK {P:Program} {o:Oper} {lo:Nat→Prop} {nx nx':Nat} {env:Env} {V V':Vh} {t:TypeId} {m:Operand} {b:Nat} {g:G} (ho:o.op= .call ⟨.builtin .len, #[m], #[t]⟩) (hV:VOk lo nx V) (hm:gX env m=some (.mp b)) (h:Zn9 P t b V nx=some (g,V',nx')):v'j P o lo env V nx g V' nx':=by
 unfold Zn9 at h
 split at h
 ·rename_i kt et es c hu hl
  cases h
  have hA:=ZgU hl
  refine⟨⟨z'h _,hV,Bel.int⟩,fun σ K hn hK=>Zuz ho hu (z'3 hm σ) (w'Y hn hA) ?_⟩
  rw[show((Zac σ es).size:Int)=(es.length:Int) by simp[Zac]]
  exact hK σ fun _ _=>rfl
 ·cases h
theorem Ziq {α β:Type} (f:α→β): ∀(l:List α) (i:Nat),(l.eraseIdx i).map f=(l.map f).eraseIdx i
 |[],i=>by simp
 |a::l,0=>rfl
 |a::l,i+1=>by simp only[List.eraseIdx_cons_succ,z's,Ziq f l i]
noncomputable def ZqD (P:Program) (t:TypeId) (b:Nat) (k:G) (V:Vh) (nx:Nat):Option (G×Vh×Nat):=match P.underlying t with
 |some (.map kt _)=>match P.underlying kt,Zlc k with
  |some kd,some k=>match Zd7 kd k,ZgT V b with
   |true,some (es,c)=>match ZeE k es 0 with
    |some none=>some (.tup [],V,nx)
    |some (some q)=>Zee V b (.mp (es.eraseIdx q.1) c) fun V'=>some (.tup [],V',nx)
    |none=>none
   |_,_=>none
  |_,_=>none
 |_=>none
theorem Zsx {P:Program} {o:Oper} {lo:Nat→Prop} {nx nx':Nat} {env:Env} {V V':Vh} {t u:TypeId} {m k:Operand} {b:Nat} {gk g:G} (ho:o.op= .call ⟨.builtin .delete, #[m,k], #[t,u]⟩) (hV:VOk lo nx V) (hm:gX env m=some (.mp b)) (hk:gX env k=some gk)
  (h:ZqD P t b gk V nx=some (g,V',nx')):v'j P o lo env V nx g V' nx':=by
 unfold ZqD at h
 split at h
 ·rename_i kt et hu
  split at h
  ·rename_i kd ky hkd hky
   split at h
   ·rename_i es c hfit hl
    have hA:=ZgU hl
    have hbe:BelL lo nx (VB.l (.mp es c)):=(hV _ _ (Zao hA)).2.2
    split at h
    ·rename_i hf
     cases h
     refine⟨⟨z'h _,hV,Bel.tup fun x hx=>by cases hx⟩,fun σ K hn hK=>?_⟩
     refine ZpH ho hu hkd (Zat hfit) (z'3 hm σ) (by rw[z'3 hk σ,Zcp hky σ]) (w'Y hn hA) (by rw[Zac];exact(Zam hfit σ hf).1) ?_
     have e:hset (Vn σ V) (σ b).1 (.obj (Zb2 (Zac σ es) c (ZaF σ none)))=Vn σ V:=Zf5 (w'Y hn hA)
     rw[e]
     exact hK σ fun _ _=>rfl
    ·rename_i q hf
     rw[ZbH]at h
     cases h
     refine⟨⟨z'h _,ZdV hV hA (fun x hx=>?_),Bel.tup fun x hx=>by cases hx⟩,fun σ K hn hK=>?_⟩
     ·obtain⟨y,hy,rfl⟩:=z'D.1 hx
      exact hbe _ (z'D.2 ⟨y,List.mem_of_mem_eraseIdx hy,rfl⟩)
     refine ZpH ho hu hkd (Zat hfit) (z'3 hm σ) (by rw[z'3 hk σ,Zcp hky σ]) (w'Y hn hA) (by rw[Zac];exact(Zam hfit σ hf).1) ?_
     have:=hK σ fun _ _=>rfl
     rw[←Zbd (c':= .mp (es.eraseIdx q.1) c) hn hA]at this
     have e:(VB.mp (es.eraseIdx q.1) c).c σ b= .obj (Zb2 (Zac σ es) c (ZaF σ (some q))):=by
      simp only[VB.c,Zb2,ZaF,y'D,Zac,List.eraseIdxIfInBounds_toArray,Ziq]
     rw[e]at this
     exact this
    ·cases h
   ·cases h
  ·cases h
 ·cases h
noncomputable def ZoK (V:Vh) (b:Nat):Option (List UInt8×Nat):=match ZaO V b with
 |some (.it s p)=>some (s,p)
 |_=>none
theorem ZtG {V:Vh} {b p:Nat} {s:List UInt8} (h:ZoK V b=some (s,p)):ZaO V b=some (.it s p):=by
 unfold ZoK at h
 split at h
 ·rename_i h1;cases h;exact h1
 ·cases h
noncomputable def Zlp (kd:Kd) (x:G) (V:Vh) (nx:Nat):Option (G×Vh×Nat):=match kd,x with
 | .str,.str s=>some (.ptr nx 0,(nx,.it s 0)::V,nx+1)
 |_,_=>none
theorem Zpk {P:Program} (T:Tab P) {o:Oper} {lo:Nat→Prop} {nx nx':Nat} {env:Env} {V V':Vh} {t:TypeId} {x:Operand} {gx g:G} (ho:o.op= .range t x) (hlo: ∀i,nx≤i→lo i) (hV:VOk lo nx V) (hx:gX env x=some gx)
  (h:Zlp (kdT (T.get t)) gx V nx=some (g,V',nx')):v'j P o lo env V nx g V' nx':=by
 unfold Zlp at h
 split at h
 ·rename_i s hkd
  cases h
  refine⟨⟨Nat.le_succ _,(hV.mono (Nat.le_succ _)).cons (hlo _ (z'h _)) (Nat.lt_succ_self _) (fun g hg=>by cases hg),Bel.ptr (hlo _ (z'h _)) (Nat.lt_succ_self _)⟩,fun σ K hn hk=>Zno T ho ?_⟩
  rw[hkd,z'3 hx σ]
  intro b hb
  have:=hk (nm1 σ nx (b,0)) Zaf
  have e1:Vn (nm1 σ nx (b,0)) V=Vn σ V:=Zap hV fun i _ hi=>Zaf i hi
  simpa only[G.d,Zcf,Zgc,VB.c,e1]using this
 ·cases h
noncomputable def Zoc (x:G) (V:Vh) (nx:Nat):Option (G×Vh×Nat):=match x with
 | .ptr b 0=>match ZoK V b with
  |some (s,p)=>match gIx s p with
   |none=>some (.tup [.bool false],V,nx)
   |some c=>match Nat.blt c.toNat 128 with
    |true=>Zcq (p+1) fun p'=>Zee V b (.it s p') fun V'=>some (.tup [.bool true,.int .i64 p,.int .i32 c.toNat],V',nx)
    |false=>none
  |none=>none
 |_=>none
theorem ZnP {s:List UInt8} {p:Nat} {c:UInt8} (h:s[p]?=some c) (hc:c.toNat<128):Utf8.decode (w'm s) p=(c.toNat,1):=by
 have e:(w'm s).get! (p+0)=c:=by
  simp only[w'm,ByteArray.get!,w'0]
  rw[z'b]at h
  obtain⟨h1,h2⟩:=h
  rw[getElem!_pos _ _ (by simpa using h1)]
  simpa using h2
 unfold Utf8.decode
 simp only[e]
 rw[if_pos (by omega)]
theorem ZqN {P:Program} {o:Oper} {lo:Nat→Prop} {nx nx':Nat} {env:Env} {V V':Vh} {x:Operand} {gx g:G} (ho:o.op= .next x true) (hV:VOk lo nx V) (hx:gX env x=some gx)
  (h:Zoc gx V nx=some (g,V',nx')):v'j P o lo env V nx g V' nx':=by
 unfold Zoc at h
 split at h
 ·rename_i b
  split at h
  ·rename_i s p hi
   have hA:=ZtG hi
   split at h
   ·rename_i hc
    rw[v'F]at hc
    cases h
    refine⟨⟨z'h _,hV,Bel.tup fun y hy=>by rw[y'F]at hy;subst hy;exact Bel.bool⟩,fun σ K hn hk=>ZlY ho ?_⟩
    rw[z'3 hx σ]
    simp only[cNext,G.d,w'Y hn hA,VB.c]
    have hb:Nat.blt p (w'm s).size=false:=by
     rw[Za7, ←Bool.not_eq_true]
     have:=List.getElem?_eq_none_iff.1 hc
     exact fun e=>absurd (Nat.blt_eq.mp e) (by omega)
    rw[hb]
    exact hk σ fun _ _=>rfl
   ·rename_i c hc
    rw[v'F]at hc
    split at h
    ·rename_i hb
     have hb:=Nat.blt_eq.mp hb
     rw[ZgE,ZbH]at h
     cases h
     refine⟨⟨z'h _,ZdV hV hA (fun g hg=>by cases hg),Bel.tup fun y hy=>?_⟩,fun σ K hn hK=>?_⟩
     ·simp only[z'F,x'C,or_false]at hy
      rcases hy with rfl|rfl|rfl
      ·exact Bel.bool
      ·exact Bel.int
      ·exact Bel.int
     ·refine ZlY ho ?_
      rw[z'3 hx σ]
      simp only[cNext,G.d,w'Y hn hA,VB.c]
      have hl:Nat.blt p (w'm s).size=true:=by
       obtain⟨h1,_⟩:=z'b.1 hc
       rw[Za7]
       exact Nat.blt_eq.mpr h1
      rw[hl]
      have:=hK σ fun _ _=>rfl
      rw[←Zbd (c':= .it s (p+1)) hn hA]at this
      simp only[v'v,ZnP hc hb]
      exact this
    ·cases h
  ·cases h
 ·cases h
end Go.Vc
