/- Calls at fixed data, reckoned out: operations upon memory. No condition. -/
import Derived.Test.YthlkpnjjkgmlkaaGreatEc
import Derived.Test.YthlkpnjjkgmlkaaGreatOb
namespace Go.Vc
set_option linter.unusedSimpArgs false
set_option linter.unusedVariables false
open Go
inductive GK where
 |i (n:Int)
 |s (l:List UInt8)
def GK.v:GK→Value
 | .i n=> .int .i64 n
 | .s l=> .string (x'I l)
def dv:D→Value
 | .is v=>v
 |_=>undef
abbrev Zdv:=List (GK×G×Nat)
def ZaO (σ:Nm) (e:GK×G×Nat):MapEntry:={key:=e.1.v,val:=dv (e.2.1.d σ),born:=e.2.2}
def v'n (σ:Nm) (es:Zdv):Array MapEntry:=(es.map (ZaO σ)).toArray
inductive VB where
 |fix (ty n:Nat) (l:List G)
 |gro (e esz:Nat) (l:List G)
 |mp (es:Zdv) (c:Nat)
 |it (s:List UInt8) (p:Nat)
abbrev Vh:=List (Nat×VB)
def VB.l:VB→List G
 | .fix _ _ l=>l
 | .gro _ _ l=>l
 | .mp es _=>es.map (·.2.1)
 | .it .. =>[]
def VB.isC:VB→Bool
 | .mp .. =>false
 | .it .. =>false
 |_=>true
def VB.put (l:List G):VB→VB
 | .fix ty n _=> .fix ty n l
 | .gro e esz _=> .gro e esz l
 | .mp es c=> .mp es c
 | .it s p=> .it s p
def VB.c (σ:Nm) (b:Nat):VB→HC
 | .fix ty n l=> .cells ty n (l.map (G.d σ))
 | .gro e esz l=> .cells e ((σ b).2*esz) (l.map (G.d σ))
 | .mp es c=> .obj (.map (v'n σ es) c)
 | .it s p=> .iter (x'I s) p
theorem VB.c_cells (σ:Nm) (b:Nat) (c:VB) (h:c.isC=true): ∃ty n, ∀l,(c.put l).c σ b= .cells ty n (l.map (G.d σ)):=by
 cases c with
 |fix ty n l=>exact⟨ty,n,fun _=>rfl⟩
 |gro e esz l=>exact⟨e,_,fun _=>rfl⟩
 |mp es c=>cases h
 |it s p=>cases h
theorem VB.put_c {c:VB} (h:c.isC=true) (l:List G):(c.put l).l=l:=by cases c<;>first|rfl|cases h
theorem VB.put_l (c:VB):c.put c.l=c:=by cases c<;>rfl
def Vn (σ:Nm) (V:Vh):Heap:=V.map fun p=>((σ p.1).1,p.2.c σ p.1)
theorem ZbC (σ:Nm) (b:Nat) (c:VB) (V:Vh):Vn σ ((b,c)::V)=((σ b).1,c.c σ b)::Vn σ V:=rfl
theorem ZjO (σ:Nm) (V W:Vh):Vn σ (V++W)=Vn σ V++Vn σ W:=z'v
def VOk (lo:Nat→Prop) (hi:Nat) (V:Vh):Prop:= ∀b c,(b,c)∈V→lo b∧b<hi∧BelL lo hi c.l
theorem VOk.mono {lo:Nat→Prop} {hi hi':Nat} {V:Vh} (h:VOk lo hi V) (k:hi≤hi'):VOk lo hi' V:=fun b c hm=>by
 obtain⟨h1,h2,h3⟩:=h b c hm
 exact⟨h1,z'G h2 k,fun g hg=>(h3 g hg).mono (fun _ _ h=>h) k⟩
theorem BelL.mono {lo:Nat→Prop} {hi hi':Nat} {l:List G} (h:BelL lo hi l) (k:hi≤hi'):BelL lo hi' l:=fun g hg=>(h g hg).mono (fun _ _ h=>h) k
theorem VB.c_congr {lo:Nat→Prop} {hi b:Nat} {c:VB} (h1:lo b) (h2:b<hi) (h:BelL lo hi c.l) {σ τ:Nm} (k: ∀i,lo i→i<hi→σ i=τ i):c.c σ b=c.c τ b:=by
 have:c.l.map (G.d σ)=c.l.map (G.d τ):=y'k fun g hg=>h g hg σ τ k
 cases c with
 |fix ty n l=>simp only[VB.c];rw[show l.map (G.d σ)=l.map (G.d τ) from this]
 |gro e esz l=>simp only[VB.c];rw[show l.map (G.d σ)=l.map (G.d τ) from this,k b h1 h2]
 |mp es c=>
  have e:es.map (ZaO σ)=es.map (ZaO τ):=y'k fun x hx=>by
   have h1:x.2.1∈VB.l (.mp es c):=z'p.2 ⟨x,hx,rfl⟩
   simp only[ZaO,h x.2.1 h1 σ τ k]
  simp only[VB.c,v'n,e]
 |it s p=>rfl
theorem v'w {lo:Nat→Prop} {hi:Nat} {V:Vh} (h:VOk lo hi V) {σ τ:Nm} (k: ∀i,lo i→i<hi→σ i=τ i):Vn σ V=Vn τ V:=
 y'k fun p hp=>by
  obtain⟨h1,h2,h3⟩:=h p.1 p.2 hp
  rw[VB.c_congr h1 h2 h3 k,k _ h1 h2]
theorem ZjV {lo:Nat→Prop} {hi:Nat} {env:Env} (h:BelE lo hi env) {σ τ:Nm} (k: ∀i,lo i→i<hi→σ i=τ i):cE σ env=cE τ env:=by
 funext t
 exact Zh6 h t σ τ k
noncomputable def v'Y (V:Vh):Nat→Option VB:=List.rec (fun _=>none) (fun p _ ih b=>match Nat.beq p.1 b with|true=>some p.2|false=>ih b) V
theorem ZeU (p:Nat×VB) (V:Vh) (b:Nat):v'Y (p::V) b=match Nat.beq p.1 b with|true=>some p.2|false=>v'Y V b:=rfl
theorem v'v: ∀{V:Vh} {b:Nat} {c:VB},v'Y V b=some c→(b,c)∈V
 |[],b,c,h=>by cases h
 |p::V,b,c,h=>by
  rw[ZeU]at h
  split at h
  ·rename_i hb
   cases h
   have:=z'r hb
   subst this
   exact z'n ..
  ·exact z'k _ (v'v h)
def ZdK:Vh→Nat→VB→Vh
 |[],_,_=>[]
 |p::V,b,c=>match Nat.beq p.1 b with|true=>(b,c)::V|false=>p::ZdK V b c
noncomputable def Zdu {R:Type} (V:Vh):Nat→VB→(Vh→R)→R:=List.rec (fun _ _ k=>k []) (fun p V ih b c k=>match Nat.beq p.1 b with|true=>k ((b,c)::V)|false=>ih b c fun W=>k (p::W)) V
theorem ZaX {R:Type}: ∀(V:Vh) (b:Nat) (c:VB) (k:Vh→R),Zdu V b c k=k (ZdK V b c)
 |[],b,c,k=>rfl
 |p::V,b,c,k=>by
  show(match Nat.beq p.1 b with|true=>k ((b,c)::V)|false=>Zdu V b c fun W=>k (p::W))=_
  rw[ZdK]
  cases Nat.beq p.1 b with
  |true=>rfl
  |false=>exact ZaX V b c _
def Zda:Vh→Nat→Vh
 |[],_=>[]
 |p::V,b=>match Nat.beq p.1 b with|true=>V|false=>p::Zda V b
noncomputable def Zn7 {R:Type} (V:Vh):Nat→(Vh→R)→R:=List.rec (fun _ k=>k []) (fun p V ih b k=>match Nat.beq p.1 b with|true=>k V|false=>ih b fun W=>k (p::W)) V
theorem ZlI {R:Type}: ∀(V:Vh) (b:Nat) (k:Vh→R),Zn7 V b k=k (Zda V b)
 |[],b,k=>rfl
 |p::V,b,k=>by
  show(match Nat.beq p.1 b with|true=>k V|false=>Zn7 V b fun W=>k (p::W))=_
  rw[Zda]
  cases Nat.beq p.1 b with
  |true=>rfl
  |false=>exact ZlI V b _
theorem ZlJ: ∀(V:Vh) (b:Nat),(Zda V b).Sublist V
 |[],b=>z'w _
 |p::V,b=>by
  rw[Zda]
  split
  ·exact z'0 ..
  ·exact(ZlJ V b).cons_cons _
theorem Zh1 (σ:Nm): ∀{V:Vh} {b:Nat} {c:VB},v'Y V b=some c→(Vn σ V).Perm (((σ b).1,c.c σ b)::Vn σ (Zda V b))
 |[],b,c,h=>by cases h
 |p::V,b,c,h=>by
  rw[ZeU]at h
  rw[Zda]
  split at h
  ·rename_i hb
   cases h
   have:=z'r hb
   subst this
   exact z'9 _
  ·rename_i hb
   exact((Zh1 σ h).cons _).trans (List.Perm.swap ..)
theorem Zdb {lo:Nat→Prop} {hi:Nat} {V:Vh} {b:Nat} {c c':VB} (h:VOk lo hi V) (hg:v'Y V b=some c) (hc:BelL lo hi c'.l):VOk lo hi (ZdK V b c'):=by
 obtain⟨h1,h2,_⟩:=h b c (v'v hg)
 have key: ∀W:Vh,(∀k x,(k,x)∈W→(k,x)∈V)→ ∀k x,(k,x)∈ZdK W b c'→(k=b∧x=c')∨(k,x)∈V:=by
  intro W
  induction W with
  |nil=>intro _ k x hx;cases hx
  |cons p W ih=>
   intro hW k x hx
   rw[ZdK]at hx
   split at hx
   ·rcases z't.1 hx with hx|hx
    ·cases hx;exact .inl ⟨rfl,rfl⟩
    ·exact .inr (hW k x (z'k _ hx))
   ·rcases z't.1 hx with hx|hx
    ·exact .inr (hW k x (hx▸z'n ..))
    ·exact ih (fun k x hk=>hW k x (z'k _ hk)) k x hx
 intro k x hx
 rcases key V (fun _ _ h=>h) k x hx with⟨rfl,rfl⟩|hm
 ·exact⟨h1,h2,hc⟩
 ·exact h k x hm
theorem Zs0 {lo:Nat→Prop} {hi:Nat} {V:Vh} {b:Nat} (h:VOk lo hi V):VOk lo hi (Zda V b):=fun k x hx=>h k x ((ZlJ V b).subset hx)
theorem v't (σ:Nm) (V:Vh):(Vn σ V).blocks=V.map fun p=>(σ p.1).1:=by simp[Vn,Heap.blocks]
theorem x'9 {σ:Nm} {V:Vh} {b:Nat} {c:VB} (hn:(Vn σ V).blocks.Nodup) (h:v'Y V b=some c):y'0 (Vn σ V) (σ b).1=some (c.c σ b):=
 ZdE hn (z'p.2 ⟨(b,c),v'v h,rfl⟩)
theorem Zao {σ:Nm} {b:Nat} {c':VB}: ∀{V:Vh} {c:VB},(Vn σ V).blocks.Nodup→v'Y V b=some c→hset (Vn σ V) (σ b).1 (c'.c σ b)=Vn σ (ZdK V b c')
 |[],c,_,h=>by cases h
 |p::V,c,hn,h=>by
  rw[ZeU]at h
  rw[ZdK]
  split at h
  ·rename_i hb
   have:=z'r hb
   subst this
   exact hset_eq
  ·rename_i hb
   have hm:=v'v h
   have hne: ¬(σ p.1).1=(σ b).1:=fun e=>by
    rw[v't,z'm,y'F]at hn
    exact hn.1 (e▸z'p.2 ⟨(b,c),hm,rfl⟩)
   show hset (((σ p.1).1,p.2.c σ p.1)::Vn σ V) _ _=_
   rw[hset_ne hne,Zao (V:=V) (c:=c) ?_ h]
   ·rfl
   ·rw[v't,z'm,y'F]at hn
    rw[v't];exact hn.2
noncomputable def v'U (V:Vh) (b:Nat):Option VB:=match v'Y V b with
 |some c=>match c.isC with|true=>some c|false=>none
 |none=>none
theorem Zd5 {V:Vh} {b:Nat} {c:VB} (h:v'U V b=some c):v'Y V b=some c∧c.isC=true:=by
 unfold v'U at h
 split at h
 ·rename_i c1 h1
  split at h
  ·rename_i h2;cases h;exact⟨h1,h2⟩
  ·cases h
 ·cases h
theorem w'X {V:Vh} {b:Nat} {c:VB} (h:v'U V b=some c):c.isC=true:=(Zd5 h).2
theorem v'i {V:Vh} {b:Nat} {c:VB} (h:v'U V b=some c):(b,c)∈V:=v'v (Zd5 h).1
theorem ZpF (σ:Nm) {V:Vh} {b:Nat} {c:VB} (h:v'U V b=some c):(Vn σ V).Perm (((σ b).1,c.c σ b)::Vn σ (Zda V b)):=Zh1 σ (Zd5 h).1
theorem Zm8 {lo:Nat→Prop} {hi:Nat} {V:Vh} {b:Nat} {c c':VB} (h:VOk lo hi V) (hg:v'U V b=some c) (hc:BelL lo hi c'.l):VOk lo hi (ZdK V b c'):=Zdb h (Zd5 hg).1 hc
theorem w'x {σ:Nm} {V:Vh} {b:Nat} {c:VB} (hn:(Vn σ V).blocks.Nodup) (h:v'U V b=some c):y'0 (Vn σ V) (σ b).1=some (c.c σ b):=x'9 hn (Zd5 h).1
theorem Zjt {σ:Nm} {b:Nat} {c':VB} {V:Vh} {c:VB} (hn:(Vn σ V).blocks.Nodup) (h:v'U V b=some c):hset (Vn σ V) (σ b).1 (c'.c σ b)=Vn σ (ZdK V b c'):=Zao hn (Zd5 h).1
noncomputable def Zge (V:Vh) (b:Nat):Option (Zdv×Nat):=match v'Y V b with
 |some (.mp es c)=>some (es,c)
 |_=>none
theorem Zgf {V:Vh} {b c:Nat} {es:Zdv} (h:Zge V b=some (es,c)):v'Y V b=some (.mp es c):=by
 unfold Zge at h
 split at h
 ·rename_i h1;cases h;exact h1
 ·cases h
noncomputable def Zem (ty:TyI) (a:G) (V:Vh):Option G:=match ty.known with
 |false=>none
 |true=>match a with
  | .ptr b o=>match v'U V b with
   |some c=>match ty.agg with
    |true=>match Nat.ble (o+ty.size) c.l.length with|true=>some (.agg ((c.l.drop o).take ty.size))|false=>none
    |false=>gIx c.l o
   |none=>none
  | .pt row=>match ty.agg with
   |true=>match Nat.ble ty.size row.length with|true=>some (.agg (row.take ty.size))|false=>none
   |false=>gIx row 0
  |_=>none
theorem Zkq {ty:TyI} {a g:G} {V:Vh} (h:Zem ty a V=some g) {σ:Nm} (hn:(Vn σ V).blocks.Nodup) {K:D→Prop} (hk:K (g.d σ)):cLoad ty (a.d σ) (Vn σ V) K:=by
 unfold Zem at h
 unfold cLoad
 split at h
 ·cases h
 ·rename_i hkn
  rw[hkn]
  split at h
  ·rename_i b o
   split at h
   ·rename_i c hc
    have hg:=w'x hn hc
    obtain⟨ty',n',hcc⟩:=VB.c_cells σ b c (w'X hc)
    have hcc':=hcc c.l
    rw[VB.put_l]at hcc'
    simp only[G.d,hg,hcc']
    split at h
    ·rename_i ha
     split at h
     ·rename_i hb
      cases h
      rw[ha]
      simp only[z'i]
      exact⟨z'x hb,by rw[←List.map_drop, ←List.map_take, ←G.dl_eq];exact hk⟩
     ·cases h
    ·rename_i ha
     rw[ha]
     rw[w'Q]at h
     exact⟨g.d σ,by rw[z'J,h];rfl,hk⟩
   ·cases h
  ·rename_i row
   simp only[G.d,G.dl_eq]
   split at h
   ·rename_i ha
    split at h
    ·rename_i hb
     cases h
     rw[ha]
     simp only[z'i]
     exact⟨z'x hb,by rw[←List.map_take, ←G.dl_eq];exact hk⟩
    ·cases h
   ·rename_i ha
    rw[ha]
    rw[w'Q]at h
    exact⟨g.d σ,by rw[z'J,h];rfl,hk⟩
  ·cases h
theorem ZiZ {ty:TyI} {a g:G} {V:Vh} (h:Zem ty a V=some g) {lo:Nat→Prop} {hi:Nat} (ha:Bel lo hi a) (hV:VOk lo hi V):Bel lo hi g:=by
 unfold Zem at h
 split at h
 ·cases h
 ·split at h
  ·split at h
   ·rename_i c hc
    have hb:=(hV _ _ (v'i hc)).2.2
    split at h
    ·split at h
     ·cases h;exact Bel.agg ((hb.drop _).take _)
     ·cases h
    ·rw[w'Q]at h;exact hb.at h
   ·cases h
  ·split at h
   ·split at h
    ·cases h;exact Bel.agg (ha.pt_l.take _)
    ·cases h
   ·rw[w'Q]at h;exact ha.pt_l.at h
  ·cases h
def w'A (P:Program) (o:Oper) (lo:Nat→Prop) (env:Env) (V:Vh) (nx:Nat) (g:G) (V':Vh) (nx':Nat):Prop:=
 (nx≤nx'∧VOk lo nx' V'∧Bel lo nx' g)∧ ∀(σ:Nm) (K:D→Heap→Prop),(Vn σ V).blocks.Nodup→(∀σ':Nm,(∀i,i<nx→σ' i=σ i)→K (g.d σ') (Vn σ' V'))→Op1 P o (evD (cE σ env)) (Vn σ V) K
def nm1 (σ:Nm) (nx:Nat) (p:Nat×Nat):Nm:=fun i=>bif Nat.beq i nx then p else σ i
theorem v'q {σ:Nm} {nx:Nat} {p:Nat×Nat}: ∀i,i<nx→nm1 σ nx p i=σ i:=fun i h=>by
 have:Nat.beq i nx=false:=by
  rw[←Bool.not_eq_true];intro hb;have:=z'r hb;omega
 simp only[nm1,this,cond_false]
theorem Zfq {σ:Nm} {nx:Nat} {p:Nat×Nat}:nm1 σ nx p nx=p:=by
 simp only[nm1,w'3,cond_true]
theorem VOk.cons {lo:Nat→Prop} {hi b:Nat} {c:VB} {V:Vh} (h:VOk lo hi V) (h1:lo b) (h2:b<hi) (h3:BelL lo hi c.l):VOk lo hi ((b,c)::V):=fun k x hx=>by
 rcases z't.1 hx with hx|hx
 ·cases hx;exact⟨h1,h2,h3⟩
 ·exact h k x hx
theorem BelL.dls {lo:Nat→Prop} {hi:Nat} {l:List G} (h:BelL lo hi l) {σ τ:Nm} (k: ∀i,lo i→i<hi→σ i=τ i):l.map (G.d σ)=l.map (G.d τ):=y'k fun g hg=>h g hg σ τ k
noncomputable def Ze6 (t:TypeId) (ty:TyI) (V:Vh) (nx:Nat):Option (G×Vh×Nat):=match ty.known with
 |false=>none
 |true=>match ZbZ ty.zero with
  |some z=>match z.all Zeq with|true=>some (.ptr nx 0,(nx,.fix t z.length z)::V,nx+1)|false=>none
  |none=>none
noncomputable def Zkg (t:TypeId) (x:G) (V:Vh) (nx:Nat):Option (G×Vh×Nat):=match Ze8 x with
 |some l=>match l.all Zeq with|true=>some (.ptr nx 0,(nx,.fix t l.length l)::V,nx+1)|false=>none
 |none=>none
theorem Zo6 {P:Program} {o:Oper} {lo:Nat→Prop} {nx:Nat} {env:Env} {V:Vh} {t:TypeId} {l:List G} (hlo: ∀i,nx≤i→lo i) (hV:VOk lo nx V) (hl:BelL lo nx l)
  (h: ∀(σ:Nm) (K:D→Heap→Prop),(∀b,b∉(Vn σ V).blocks→K (.is (.pointer (some ⟨b,0,none⟩))) ((b,.cells t l.length (l.map (G.d σ)))::Vn σ V))→Op1 P o (evD (cE σ env)) (Vn σ V) K):
  w'A P o lo env V nx (.ptr nx 0) ((nx,.fix t l.length l)::V) (nx+1):=by
 refine⟨⟨Nat.le_succ _,(hV.mono (Nat.le_succ _)).cons (hlo _ (z'f _)) (Nat.lt_succ_self _) (hl.mono (Nat.le_succ _)),Bel.ptr (hlo _ (z'f _)) (Nat.lt_succ_self _)⟩,fun σ K hn hk=>h σ K fun b hb=>?_⟩
 have:=hk (nm1 σ nx (b,0)) v'q
 have e1:Vn (nm1 σ nx (b,0)) V=Vn σ V:=v'w hV fun i _ hi=>v'q i hi
 have e2:l.map (G.d (nm1 σ nx (b,0)))=l.map (G.d σ):=hl.dls fun i _ hi=>v'q i hi
 simpa only[G.d,ZbC,Zfq,VB.c,e1,e2]using this
theorem ZiX {P:Program} (T:Tab P) {o:Oper} {lo:Nat→Prop} {nx nx':Nat} {env:Env} {V V':Vh} {t:TypeId} {g:G} (ho:o.op= .alloc t) (hlo: ∀i,nx≤i→lo i) (hV:VOk lo nx V)
  (h:Ze6 t (T.get t) V nx=some (g,V',nx')):w'A P o lo env V nx g V' nx':=by
 unfold Ze6 at h
 split at h
 ·cases h
 ·rename_i hk
  split at h
  ·rename_i z hz
   split at h
   ·rename_i ha
    cases h
    refine Zo6 hlo hV (Za6 hz) fun σ K hK=>ZmN T ho ?_
    have e:=ZbO hz σ
    have el:(T.get t).zero.length=z.length:=by have:=congrArg List.length e;simpa using this
    simp only[cAlloc,hk,e,el]
    exact⟨ZaR ha σ,hK⟩
   ·cases h
  ·cases h
theorem Zmj {P:Program} {o:Oper} {lo:Nat→Prop} {nx nx':Nat} {env:Env} {V V':Vh} {t:TypeId} {x:Operand} {gx g:G} (ho:o.op= .box t x) (hlo: ∀i,nx≤i→lo i) (hV:VOk lo nx V) (he:BelE lo nx env) (hx:gX env x=some gx)
  (h:Zkg t gx V nx=some (g,V',nx')):w'A P o lo env V nx g V' nx':=by
 unfold Zkg at h
 split at h
 ·rename_i l hl
  split at h
  ·rename_i ha
   cases h
   refine Zo6 hlo hV (Zek hl (x'v hx he)) fun σ K hK=>ZrC ho ?_
   rw[z'U hx]
   simp only[cBox,Ze9 hl σ,z'i]
   exact⟨ZaR ha σ,hK⟩
  ·cases h
 ·cases h
noncomputable def ZhE (known:Bool) (sz:Nat) (a x:G) (V:Vh) (nx:Nat):Option (G×Vh×Nat):=match known with
 |false=>none
 |true=>match a,Ze8 x with
  | .ptr b o,some c=>match v'U V b with
   |some bl=>match c.all Zeq&&(Nat.beq c.length sz&&Nat.ble (o+sz) bl.l.length)with
    |true=>v'A (Zev bl.l o c) fun l=>Zdu V b (bl.put l) fun V'=>some (.val undef,V',nx)
    |false=>none
   |none=>none
  |_,_=>none
theorem ZoM {P:Program} (T:Tab P) {o:Oper} {lo:Nat→Prop} {nx nx':Nat} {env:Env} {V V':Vh} {t:TypeId} {a x:Operand} {ga gx g:G} (ho:o.op= .store t a x) (hV:VOk lo nx V) (he:BelE lo nx env) (ha:gX env a=some ga)
  (hx:gX env x=some gx) (h:ZhE (T.get t).known (T.get t).size ga gx V nx=some (g,V',nx')):w'A P o lo env V nx g V' nx':=by
 unfold ZhE at h
 split at h
 ·cases h
 ·rename_i hk
  split at h
  ·rename_i b off c hc
   split at h
   ·rename_i bl hbl
    split at h
    ·rename_i hb
     simp only[x'K,ZaX,z'D,Prod.mk.injEq]at h
     obtain⟨rfl,rfl,rfl⟩:=h
     rw[z'c,z'c]at hb
     obtain⟨h1,h2,h3⟩:=hb
     have hbel:=(hV _ _ (v'i hbl)).2.2
     have hcb:=Zek hc (x'v hx he)
     have hput: ∀l,(bl.put l).l=l:=VB.put_c (w'X hbl)
     refine⟨⟨z'f _,Zm8 hV hbl (by rw[hput];exact Zdl _ _ _ hbel hcb),Bel.val⟩,fun σ K hn hk'=>ZmV T ho hk ?_⟩
     rw[z'U ha,z'U hx]
     obtain⟨ty',n',hcc⟩:=VB.c_cells σ b bl (w'X hbl)
     have hcc':=hcc bl.l
     rw[VB.put_l]at hcc'
     simp only[G.d,cStore,Ze9 hc σ,w'x hn hbl,hcc',z'i]
     refine⟨⟨ZaR h1 σ,z'r h2,z'x h3⟩,?_⟩
     rw[Zew, ←hcc,Zjt hn hbl]
     exact hk' σ fun _ _=>rfl
    ·cases h
   ·cases h
  ·cases h
noncomputable def Zhz (kd:Kd) (l c:G) (V:Vh) (nx:Nat):Option (G×Vh×Nat):=match kd,l,c with
 | .slice e esz eb _ ez,.int _ (.ofNat a),.int _ (.ofNat b)=>match Nat.beq a b&&(Nat.ble (a*eb) 281474976710656&&Nat.ble a 9223372036854775807),ZbZ ez with
  |true,some z=>match z.all Zeq with
   |true=>v'A (List.replicate a z).flatten fun l=>some (.own nx a,(nx,.gro e esz l)::V,nx+1)
   |false=>none
  |_,_=>none
 |_,_,_=>none
theorem Zkr {P:Program} (T:Tab P) {o:Oper} {lo:Nat→Prop} {nx nx':Nat} {env:Env} {V V':Vh} {t:TypeId} {l c:Operand} {gl gc g:G} (ho:o.op= .makeSlice t l c) (hlo: ∀i,nx≤i→lo i) (hV:VOk lo nx V) (h1:gX env l=some gl)
  (h2:gX env c=some gc) (h:Zhz (kdT (T.get t)) gl gc V nx=some (g,V',nx')):w'A P o lo env V nx g V' nx':=by
 unfold Zhz at h
 split at h
 ·rename_i e esz eb ea ez k1 a k2 b hkd
  split at h
  ·rename_i z hb hz
   split at h
   ·rename_i ha
    simp only[x'K,z'D,Prod.mk.injEq]at h
    obtain⟨rfl,rfl,rfl⟩:=h
    rw[z'c,z'c]at hb
    obtain⟨b1,b2,b3⟩:=hb
    obtain rfl:=z'r b1
    have hzb:BelL lo nx (List.replicate a z).flatten:=fun g hg=>by
     obtain⟨r,hr,hg⟩:=List.mem_flatten.1 hg
     exact Za6 hz g ((List.mem_replicate.1 hr).2▸hg)
    refine⟨⟨Nat.le_succ _,(hV.mono (Nat.le_succ _)).cons (hlo _ (z'f _)) (Nat.lt_succ_self _) (hzb.mono (Nat.le_succ _)),Bel.own (hlo _ (z'f _)) (Nat.lt_succ_self _)⟩,fun σ K hn hk=>ZhQ T ho ?_⟩
    rw[z'U h1,z'U h2,hkd]
    have ez':=ZbO hz σ
    simp only[G.d,cMake,Int.ofNat_eq_natCast,z'q,ez']
    refine⟨⟨by omega,trivial,z'x b2,by have:=z'x b3;omega,ZaR ha σ⟩,fun k hkH=>?_⟩
    have:=hk (nm1 σ nx (k,a)) v'q
    have e1:Vn (nm1 σ nx (k,a)) V=Vn σ V:=v'w hV fun i _ hi=>v'q i hi
    have e2:(List.replicate a z).flatten.map (G.d (nm1 σ nx (k,a)))=v'r a ez:=by
     rw[hzb.dls (τ:=σ) fun i _ hi=>v'q i hi]
     unfold v'r
     rw[ez']
     simp[List.map_flatten]
    simpa only[G.d,ZbC,Zfq,VB.c,e1,e2]using this
   ·cases h
  ·cases h
 ·cases h
def Zie:List G→Option (List Value)
 |[]=>some []
 | .int k n::r=>match Zie r with|some l=>some (.int k n::l)|none=>none
 | .bool b::r=>match Zie r with|some l=>some (.bool b::l)|none=>none
 | .str s::r=>match Zie r with|some l=>some (.string (x'I s)::l)|none=>none
 |_::_=>none
def gEx:G→Option Value
 | .int k n=>some (.int k n)
 | .bool b=>some (.bool b)
 | .str s=>some (.string (x'I s))
 | .agg l=>match Zie l with|some vs=>some (.agg vs.toArray)|none=>none
 | .fn f []=>some (.func (.func f) #[] #[])
 |_=>none
theorem Zmm (σ:Nm): ∀{l:List G} {vs:List Value},Zie l=some vs→l.map (G.d σ)=vs.map D.is
 |[],vs,h=>by cases h;rfl
 |g::r,vs,h=>by
  cases g<;>simp only[Zie]at h<;>first|(cases h;done)|skip
  all_goals
   split at h
   ·rename_i l hl;cases h;rw[z'm,z'm,Zmm σ hl];rfl
   ·cases h
theorem ZkV: ∀vs:List Value,(vs.map D.is).mapM isV=some vs
 |[]=>rfl
 |v::r=>by rw[z'm,w'F,ZkV r];rfl
theorem Ztp {g:G} {v:Value} (h:gEx g=some v) (σ:Nm):ZcO (g.d σ)=some v:=by
 unfold gEx at h
 split at h
 ·cases h;rfl
 ·cases h;rfl
 ·cases h;rfl
 case h_5=>cases h;rfl
 case h_6=>cases h
 split at h
 ·rename_i l vs hl
  cases h
  simp only[G.d,G.dl_eq,ZcO,Zmm σ hl,ZkV,y'w]
 ·cases h
def Zff:List Value→Option (List G)
 |[]=>some []
 | .int k n::r=>match Zff r with|some l=>some (.int k n::l)|none=>none
 | .bool b::r=>match Zff r with|some l=>some (.bool b::l)|none=>none
 | .string s::r=>match Zff r with|some l=>some (.str s.data.toList::l)|none=>none
 |_::_=>none
def gPv:Value→Option G
 | .int k n=>some (.int k n)
 | .bool b=>some (.bool b)
 | .string s=>some (.str s.data.toList)
 | .agg cs=>match Zff cs.toList with|some l=>some (.agg l)|none=>none
 | .func (.func f) bs cs=>match bs.toList,cs.toList with|[],[]=>some (.fn f [])|_,_=>none
 | .map none=>some (.val (.map none))
 |_=>none
theorem Zms (σ : Nm) : ∀ {vs : List Value} {l : List G}, Zff vs = some l → vs.map D.is = l.map (G.d σ)
  | [], l, h => by cases h; rfl
  | v :: r, l, h => by
    unfold Zff at h
    split at h
    · rename_i e; cases e
    all_goals first
      | (cases h; done)
      | (rename_i e
         cases e
         split at h
         · rename_i l' hl; cases h; rw [z'm, z'm, Zms σ hl]; rfl
         · cases h)
theorem Zfg {v:Value} {g:G} (h:gPv v=some g) (σ:Nm):ZaY v=g.d σ:=by
 unfold gPv at h
 split at h
 ·cases h;rfl
 ·cases h;rfl
 ·cases h;rfl
 ·split at h
  ·rename_i l hl
   cases h
   simp only[G.d,G.dl_eq,ZaY,Zms σ hl]
  ·cases h
 ·rename_i f bs cs
  split at h
  ·rename_i hb hc
   cases h
   have e1:bs= #[]:=by rw[←z'Z];exact hb
   have e2:cs= #[]:=by rw[←z'Z];exact hc
   subst e1;subst e2
   rfl
  ·cases h
 ·cases h;rfl
 ·cases h
theorem Zil {v:Value} {g:G} (h:gPv v=some g) {lo:Nat→Prop} {hi:Nat}:Bel lo hi g:=fun σ τ _=>(Zfg h σ).symm.trans (Zfg h τ)
theorem Zim {v : Value} {g : G} (h : gPv v = some g) : ∀ cs, v = .agg cs → cs.toList.all Value.oneCell' = true := by
  rintro cs rfl
  simp only [gPv] at h
  split at h
  · rename_i l hl
    have key : ∀ {vs : List Value} {l : List G}, Zff vs = some l → vs.all Value.oneCell' = true := by
      intro vs
      induction vs with
      | nil => intro _ _; rfl
      | cons v r ih =>
        intro l h
        unfold Zff at h
        split at h
        · rename_i e; cases e
        all_goals first
          | (cases h; done)
          | (rename_i e
             cases e
             split at h
             · rename_i l' hl; rw [y'q, ih hl]; rfl
             · cases h)
    exact key hl
  · cases h
def Zko:G→Option GK
 | .int .i64 n=>some (.i n)
 | .str l=>some (.s l)
 |_=>none
theorem ZbL {g:G} {k:GK} (h:Zko g=some k) (σ:Nm):g.d σ= .is k.v:=by
 unfold Zko at h
 split at h<;>cases h<;>rfl
def Zdo:TypeDesc→GK→Bool
 | .int _,.i _=>true
 | .string,.s _=>true
 |_,_=>false
theorem v'D {kd:TypeDesc} {k:GK} (h:Zdo kd k=true):Zf3 kd=true:=by
 cases kd<;>cases k<;>first|rfl|cases h
noncomputable def Zqi:GK→GK→Option Bool
 | .i a,.i b=>some (decide (a=b))
 | .s a,.s b=>some (eqB a b)
 |_,_=>none
theorem ZjT (a b:List UInt8):(x'I a == x'I b)=decide (a=b):=by
 rw[beq_toListBytes,ByteArray.toList_eq,ByteArray.toList_eq]
 show(a == b)=decide (a=b)
 by_cases e:a=b<;>simp[e]
theorem Zmp {kd:TypeDesc} {a b:GK} {r:Bool} (hk:Zdo kd a=true) (h:Zqi a b=some r):Instr.sameNow kd a.v b.v=some r∧(r=true→b=a):=by
 cases a<;>cases b<;>simp only[Zqi,z'D,reduceCtorEq]at h
 ·cases kd<;>simp only[Zdo,y'Z]at hk
  subst h
  refine⟨?_,fun h=>by rw[of_decide_eq_true h]⟩
  simp only[GK.v,Instr.sameNow,if_true]
  rfl
 ·cases kd<;>simp only[Zdo,y'Z]at hk
  subst h
  rw[Zhm]
  refine⟨?_,fun h=>by rw[of_decide_eq_true h]⟩
  simp only[GK.v,Instr.sameNow]
  rw[ZjT]
noncomputable def ZdU (k:GK):Zdv→Nat→Option (Option (Nat×G))
 |[],_=>some none
 |e::r,i=>match Zqi k e.1 with
  |some true=>some (some (i,e.2.1))
  |some false=>ZdU k r (i+1)
  |none=>none
def v'M (σ:Nm) (p:Option (Nat×G)):Option (Nat×Value):=p.map fun q=>(q.1,dv (q.2.d σ))
theorem v'u {kd:TypeDesc} {k:GK} (hk:Zdo kd k=true) (σ:Nm): ∀{es:Zdv} {i:Nat} {p:Option (Nat×G)},ZdU k es i=some p→Instr.findNow kd k.v (es.map (ZaO σ)) i=some (v'M σ p)∧ ∀q,p=some q→i≤q.1∧ ∃e,es[q.1-i]?=some e∧e.1=k∧e.2.1=q.2
 |[],i,p,h=>by cases h;exact⟨rfl,fun q hq=>by cases hq⟩
 |e::r,i,p,h=>by
  unfold ZdU at h
  split at h
  ·rename_i hq
   cases h
   obtain⟨h1,h2⟩:=Zmp hk hq
   refine⟨?_,fun q hq=>?_⟩
   ·simp only[z'm,Instr.findNow,ZaO,h1];rfl
   ·cases hq
    exact⟨z'f _,e,by simp,h2 rfl,rfl⟩
  ·rename_i hq
   obtain⟨h1,_⟩:=Zmp hk hq
   obtain⟨k1,k2⟩:=v'u hk σ h
   refine⟨?_,fun q hq=>?_⟩
   ·simp only[z'm,Instr.findNow,ZaO,h1];exact k1
   ·obtain⟨q1,e',q2,q3⟩:=k2 q hq
    refine⟨by omega,e',?_,q3⟩
    rw[show q.1-i=(q.1-(i+1))+1 by omega,x't]
    exact q2
  ·cases h
def gVE:G→Option G
 | .mp b=>some (.mp b)
 |g=>match gEx g with|some v=>some (.val v)|none=>none
theorem ZoN {g u:G} (h:gVE g=some u) (σ:Nm):ZcO (g.d σ)=some (dv (u.d σ)):=by
 unfold gVE at h
 split at h
 ·cases h;rfl
 ·split at h
  ·rename_i v hv;cases h;exact Ztp hv σ
  ·cases h
theorem Zr8 {g u:G} (h:gVE g=some u) {lo:Nat→Prop} {hi:Nat} (hg:Bel lo hi g):Bel lo hi u:=by
 unfold gVE at h
 split at h
 ·cases h;exact hg
 ·split at h
  ·cases h;exact Bel.val
  ·cases h
def Zep (k:GK) (u:G):Zdv→Nat→Zdv
 |[],_=>[]
 |e::r,0=>(k,u,e.2.2)::r
 |e::r,i+1=>e::Zep k u r i
theorem Zku (σ:Nm) (k:GK) (u:G): ∀(es:Zdv) (i:Nat),(Zep k u es i).map (ZaO σ)=(es.map (ZaO σ)).modify i fun e=>{e with key:=k.v,val:=dv (u.d σ)}
 |[],i=>by cases i<;>rfl
 |e::r,0=>rfl
 |e::r,i+1=>by
  simp only[Zep,z'm,List.modify_succ_cons,Zku σ k u r i]
theorem Zi0 {k:GK} {u:G} {x:G}: ∀{es:Zdv} {i:Nat},x∈(Zep k u es i).map (·.2.1)→x=u∨x∈es.map (·.2.1)
 |[],i,h=>by cases i<;>exact .inr h
 |e::r,0,h=>by
  rcases z't.1 h with h|h
  ·exact .inl h
  ·exact .inr (z'k _ h)
 |e::r,i+1,h=>by
  rcases z't.1 h with h|h
  ·exact .inr (h▸z'n ..)
  ·rcases Zi0 h with h|h
   ·exact .inl h
   ·exact .inr (z'k _ h)
noncomputable def ZfU (P:Program) (t:TypeId) (m k v:G) (V:Vh) (nx:Nat):Option (G×Vh×Nat):=match P.underlying t with
 |some (.map kt _)=>match P.underlying kt,m,Zko k with
  |some kd,.mp b,some k=>match Zdo kd k,Zge V b,gVE v with
   |true,some (es,c),some u=>match ZdU k es 0 with
    |some none=>ZbM (c+1) fun c'=>Zdu V b (.mp (es++[(k,u,c)]) c') fun V'=>some (.val undef,V',nx)
    |some (some q)=>Zdu V b (.mp (Zep k u es q.1) c) fun V'=>some (.val undef,V',nx)
    |none=>none
   |_,_,_=>none
  |_,_,_=>none
 |_=>none
theorem ZhA {P:Program} {o:Oper} {lo:Nat→Prop} {nx nx':Nat} {env:Env} {V V':Vh} {t:TypeId} {m k v:Operand} {gm gk gv g:G} (ho:o.op= .mapUpdate t m k v∨o.op= .insert t m k v) (hV:VOk lo nx V) (he:BelE lo nx env) (hm:gX env m=some gm) (hk:gX env k=some gk)
  (hv:gX env v=some gv) (h:ZfU P t gm gk gv V nx=some (g,V',nx')):w'A P o lo env V nx g V' nx':=by
 unfold ZfU at h
 split at h
 ·rename_i kt et hu
  split at h
  ·rename_i kd b ky hkd hky
   split at h
   ·rename_i es c u hfit hl hu'
    have hA:=Zgf hl
    have hbu:=Zr8 hu' (x'v hv he)
    have hbe:BelL lo nx (VB.l (.mp es c)):=(hV _ _ (v'v hA)).2.2
    split at h
    ·rename_i hf
     rw[ZfV,ZaX]at h
     cases h
     refine⟨⟨z'f _,Zdb hV hA (fun x hx=>?_),Bel.val⟩,fun σ K hn hK=>?_⟩
     ·rw[VB.l,z'v]at hx
      rcases z'W.1 hx with hx|hx
      ·exact hbe x hx
      ·rw[z'm,z'8,z'V]at hx;subst hx;exact hbu
     refine Zlj ho hu hkd (v'D hfit) (z'U hm σ) (by rw[z'U hk σ,ZbL hky σ]) (by rw[z'U hv];exact ZoN hu' σ) (x'9 hn hA) (by rw[v'n];exact(v'u hfit σ hf).1) (fun q hq=>by cases hq) ?_
     have:=hK σ fun _ _=>rfl
     rw[←Zao (c':= .mp (es++[(ky,u,c)]) (c+1)) hn hA]at this
     have e:(VB.mp (es++[(ky,u,c)]) (c+1)).c σ b= .obj (v'7 (v'n σ es) c ky.v (dv (u.d σ)) (v'M σ none)):=by
      simp only[VB.c,v'7,v'M,y'3,v'n,z'v,z'm,z'8,List.push_toArray,ZaO]
     rw[e]at this
     exact this
    ·rename_i q hf
     rw[ZaX]at h
     cases h
     refine⟨⟨z'f _,Zdb hV hA (fun x hx=>?_),Bel.val⟩,fun σ K hn hK=>?_⟩
     ·rcases Zi0 hx with hx|hx
      ·exact hx▸hbu
      ·exact hbe x hx
     obtain⟨f1,f2⟩:=v'u hfit σ hf
     obtain⟨_,e0,e1,e2,_⟩:=f2 q rfl
     refine Zlj ho hu hkd (v'D hfit) (z'U hm σ) (by rw[z'U hk σ,ZbL hky σ]) (by rw[z'U hv];exact ZoN hu' σ) (x'9 hn hA) (by rw[v'n];exact f1) (fun q' hq=>?_) ?_
     ·cases hq
      rw[Nat.sub_zero]at e1
      have:(v'n σ es)[q.1]?=some (ZaO σ e0):=by simp[v'n,e1]
      simp only[this,y'w,z'M,ZaO,e2]
      cases ky with
      |i n=>simp[GK.v,Instr.sameBits]
      |s l=>simp[GK.v,Instr.sameBits,ZjT]
     have:=hK σ fun _ _=>rfl
     rw[←Zao (c':= .mp (Zep ky u es q.1) c) hn hA]at this
     have e:(VB.mp (Zep ky u es q.1) c).c σ b= .obj (v'7 (v'n σ es) c ky.v (dv (u.d σ)) (v'M σ (some q))):=by
      simp only[VB.c,v'7,v'M,y'w,v'n,Zku]
      congr 2
      rw[←z'Z,Array.toList_modify]
     rw[e]at this
     exact this
    ·cases h
   ·cases h
  ·cases h
 ·cases h
def lkR (ok q:Bool) (g:G):G:=match ok with|true=> .tup [g,.bool q]|false=>g
theorem ZkS {σ:Nm} {ok:Bool} {v:Value} {q:Bool} {g:G} (h:ZaY v=g.d σ):ZbR ok (v,q)=(lkR ok q g).d σ:=by
 cases ok
 ·exact h
 ·simp only[ZbR,lkR,G.d,G.dl,h]
theorem Ziv {ok q:Bool} {g:G} {lo:Nat→Prop} {hi:Nat} (h:Bel lo hi g):Bel lo hi (lkR ok q g):=by
 cases ok
 ·exact h
 ·refine Bel.tup fun x hx=>?_
  rcases z't.1 hx with rfl|hx
  ·exact h
  ·rw[z'V]at hx;subst hx;exact Bel.bool
def Zhr:G→Option G
 | .mp b=>some (.mp b)
 | .val v=>gPv v
 |_=>none
theorem Zp8 {u g:G} (h:Zhr u=some g) (σ:Nm):ZaY (dv (u.d σ))=g.d σ∧ ∀cs,dv (u.d σ)= .agg cs→cs.toList.all Value.oneCell'=true:=by
 unfold Zhr at h
 split at h
 ·cases h;exact⟨rfl,fun cs hc=>by cases hc⟩
 ·exact⟨Zfg h σ,Zim h⟩
 ·cases h
theorem ZoA {u g:G} (h:Zhr u=some g) {lo:Nat→Prop} {hi:Nat} (hu:Bel lo hi u):Bel lo hi g:=by
 unfold Zhr at h
 split at h
 ·cases h;exact hu
 ·exact Zil h
 ·cases h
noncomputable def ZfT (P:Program) (t:TypeId) (m k:G) (ok:Bool) (V:Vh):Option G:=match P.underlying t with
 |some (.map kt et)=>match P.underlying kt,Zko k,(P.info? et).bind (·.zero)with
  |some kd,some k,some z=>match Zdo kd k with
   |true=>match m with
    | .mp b=>match Zge V b with
     |some (es,_)=>match ZdU k es 0 with
      |some (some q)=>match Zhr q.2 with|some g=>some (lkR ok true g)|none=>none
      |some none=>match gPv z with|some g=>some (lkR ok false g)|none=>none
      |none=>none
     |none=>none
    | .val (.map none)=>match gPv z with|some g=>some (lkR ok false g)|none=>none
    |_=>none
   |false=>none
  |_,_,_=>none
 |_=>none
theorem Zhy {P:Program} {o:Oper} {lo:Nat→Prop} {nx:Nat} {env:Env} {V:Vh} {t:TypeId} {m k:Operand} {gm gk g:G} {ok:Bool} (ho:o.op= .lookup t m k ok) (hV:VOk lo nx V) (hm:gX env m=some gm) (hk:gX env k=some gk)
  (h:ZfT P t gm gk ok V=some g):Bel lo nx g∧ ∀(σ:Nm) (K:D→Heap→Prop),(Vn σ V).blocks.Nodup→K (g.d σ) (Vn σ V)→Op1 P o (evD (cE σ env)) (Vn σ V) K:=by
 unfold ZfT at h
 split at h
 ·rename_i kt et hu
  split at h
  ·rename_i kd ky z hkd hky hz
   split at h
   ·rename_i hfit
    split at h
    ·rename_i b
     split at h
     ·rename_i es c hl
      have hA:=Zgf hl
      have hbe:BelL lo nx (VB.l (.mp es c)):=(hV _ _ (v'v hA)).2.2
      split at h
      ·rename_i q hf
       split at h
       ·rename_i g' hg
        cases h
        obtain⟨_,f2⟩:=v'u hfit (fun _=>(0,0)) hf
        obtain⟨_,e0,e1,_,e3⟩:=f2 q rfl
        refine⟨Ziv (ZoA hg (hbe _ (z'p.2 ⟨e0,z'l e1,e3⟩))),fun σ K hn hK=>?_⟩
        obtain⟨b1,b2⟩:=Zp8 hg σ
        refine ZiC (p:=v'M σ (some q)) ho hu hkd (v'D hfit) hz (z'U hm σ) (by rw[z'U hk σ,ZbL hky σ]) (x'9 hn hA) (by rw[v'n];exact(v'u hfit σ hf).1) b2 ?_
        rw[show v'N z (v'M σ (some q))=(dv (q.2.d σ),true) from rfl,ZkS b1]
        exact hK
       ·cases h
      ·rename_i hf
       split at h
       ·rename_i g' hg
        cases h
        refine⟨Ziv (Zil hg),fun σ K hn hK=>?_⟩
        refine ZiC (p:=v'M σ none) ho hu hkd (v'D hfit) hz (z'U hm σ) (by rw[z'U hk σ,ZbL hky σ]) (x'9 hn hA) (by rw[v'n];exact(v'u hfit σ hf).1) (Zim hg) ?_
        rw[show v'N z (v'M σ none)=(z,false) from rfl,ZkS (Zfg hg σ)]
        exact hK
       ·cases h
      ·cases h
     ·cases h
    ·split at h
     ·rename_i g' hg
      cases h
      refine⟨Ziv (Zil hg),fun σ K hn hK=>?_⟩
      refine ZsD ho hu hkd (v'D hfit) hz (z'U hm σ) (by rw[z'U hk σ,ZbL hky σ]) (Zim hg) ?_
      rw[ZkS (Zfg hg σ)]
      exact hK
     ·cases h
    ·cases h
   ·cases h
  ·cases h
 ·cases h
noncomputable def ZgI (P:Program) (t:TypeId) (r:Option G) (V:Vh) (nx:Nat):Option (G×Vh×Nat):=match P.underlying t with
 |some (.map _ _)=>match r with
  |none=>some (.mp nx,(nx,.mp [] 0)::V,nx+1)
  |some (.int _ _)=>some (.mp nx,(nx,.mp [] 0)::V,nx+1)
  |_=>none
 |_=>none
theorem ZlY {P:Program} {o:Oper} {lo:Nat→Prop} {nx nx':Nat} {env:Env} {V V':Vh} {t:TypeId} {r:Option Operand} {gr:Option G} {g:G} (ho:o.op= .makeMap t r) (hlo: ∀i,nx≤i→lo i) (hV:VOk lo nx V) (hr:gXo env r=some gr)
  (h:ZgI P t gr V nx=some (g,V',nx')):w'A P o lo env V nx g V' nx':=by
 unfold ZgI at h
 split at h
 ·rename_i kt et hu
  have key: ∀(hx: ∀σ:Nm, ∀x,r=some x→ ∃k n,evD (cE σ env) x= .is (.int k n)),w'A P o lo env V nx (.mp nx) ((nx,.mp [] 0)::V) (nx+1):=fun hx=>by
   refine⟨⟨Nat.le_succ _,(hV.mono (Nat.le_succ _)).cons (hlo _ (z'f _)) (Nat.lt_succ_self _) (fun g hg=>by cases hg),Bel.mp (hlo _ (z'f _)) (Nat.lt_succ_self _)⟩,fun σ K hn hk=>Zci ho hu (hx σ) fun b hb=>?_⟩
   have:=hk (nm1 σ nx (b,0)) v'q
   have e1:Vn (nm1 σ nx (b,0)) V=Vn σ V:=v'w hV fun i _ hi=>v'q i hi
   simp only[G.d,ZbC,Zfq,VB.c,e1]at this
   exact this
  split at h
  ·cases h
   refine key fun σ x hx=>?_
   subst hx
   have:=Zfk hr σ
   cases this
  ·cases h
   rename_i k n
   refine key fun σ x hx=>?_
   subst hx
   have:=Zfk hr σ
   simp only[y'w,z'D]at this
   exact⟨_,_,this⟩
  ·cases h
 ·cases h
noncomputable def ZnB (P:Program) (t:TypeId) (b:Nat) (V:Vh) (nx:Nat):Option (G×Vh×Nat):=match P.underlying t,Zge V b with
 |some (.map _ _),some (es,_)=>some (.int .i64 es.length,V,nx)
 |_,_=>none
theorem Zqj {P:Program} {o:Oper} {lo:Nat→Prop} {nx nx':Nat} {env:Env} {V V':Vh} {t:TypeId} {m:Operand} {b:Nat} {g:G} (ho:o.op= .call ⟨.builtin .len, #[m], #[t]⟩) (hV:VOk lo nx V) (hm:gX env m=some (.mp b)) (h:ZnB P t b V nx=some (g,V',nx')):w'A P o lo env V nx g V' nx':=by
 unfold ZnB at h
 split at h
 ·rename_i kt et es c hu hl
  cases h
  have hA:=Zgf hl
  refine⟨⟨z'f _,hV,Bel.int⟩,fun σ K hn hK=>Zpj ho hu (z'U hm σ) (x'9 hn hA) ?_⟩
  rw[show((v'n σ es).size:Int)=(es.length:Int) by simp[v'n]]
  exact hK σ fun _ _=>rfl
 ·cases h
theorem ZhO {α β:Type} (f:α→β): ∀(l:List α) (i:Nat),(l.eraseIdx i).map f=(l.map f).eraseIdx i
 |[],i=>by simp
 |a::l,0=>rfl
 |a::l,i+1=>by simp only[List.eraseIdx_cons_succ,z'm,ZhO f l i]
noncomputable def Zqc (P:Program) (t:TypeId) (b:Nat) (k:G) (V:Vh) (nx:Nat):Option (G×Vh×Nat):=match P.underlying t with
 |some (.map kt _)=>match P.underlying kt,Zko k with
  |some kd,some k=>match Zdo kd k,Zge V b with
   |true,some (es,c)=>match ZdU k es 0 with
    |some none=>some (.tup [],V,nx)
    |some (some q)=>Zdu V b (.mp (es.eraseIdx q.1) c) fun V'=>some (.tup [],V',nx)
    |none=>none
   |_,_=>none
  |_,_=>none
 |_=>none
theorem ZrZ {P:Program} {o:Oper} {lo:Nat→Prop} {nx nx':Nat} {env:Env} {V V':Vh} {t u:TypeId} {m k:Operand} {b:Nat} {gk g:G} (ho:o.op= .call ⟨.builtin .delete, #[m,k], #[t,u]⟩) (hV:VOk lo nx V) (hm:gX env m=some (.mp b)) (hk:gX env k=some gk)
  (h:Zqc P t b gk V nx=some (g,V',nx')):w'A P o lo env V nx g V' nx':=by
 unfold Zqc at h
 split at h
 ·rename_i kt et hu
  split at h
  ·rename_i kd ky hkd hky
   split at h
   ·rename_i es c hfit hl
    have hA:=Zgf hl
    have hbe:BelL lo nx (VB.l (.mp es c)):=(hV _ _ (v'v hA)).2.2
    split at h
    ·rename_i hf
     cases h
     refine⟨⟨z'f _,hV,Bel.tup fun x hx=>by cases hx⟩,fun σ K hn hK=>?_⟩
     refine Zld ho hu hkd (v'D hfit) (z'U hm σ) (by rw[z'U hk σ,ZbL hky σ]) (x'9 hn hA) (by rw[v'n];exact(v'u hfit σ hf).1) ?_
     have e:hset (Vn σ V) (σ b).1 (.obj (ZaB (v'n σ es) c (v'M σ none)))=Vn σ V:=Zcf (x'9 hn hA)
     rw[e]
     exact hK σ fun _ _=>rfl
    ·rename_i q hf
     rw[ZaX]at h
     cases h
     refine⟨⟨z'f _,Zdb hV hA (fun x hx=>?_),Bel.tup fun x hx=>by cases hx⟩,fun σ K hn hK=>?_⟩
     ·obtain⟨y,hy,rfl⟩:=z'p.1 hx
      exact hbe _ (z'p.2 ⟨y,List.mem_of_mem_eraseIdx hy,rfl⟩)
     refine Zld ho hu hkd (v'D hfit) (z'U hm σ) (by rw[z'U hk σ,ZbL hky σ]) (x'9 hn hA) (by rw[v'n];exact(v'u hfit σ hf).1) ?_
     have:=hK σ fun _ _=>rfl
     rw[←Zao (c':= .mp (es.eraseIdx q.1) c) hn hA]at this
     have e:(VB.mp (es.eraseIdx q.1) c).c σ b= .obj (ZaB (v'n σ es) c (v'M σ (some q))):=by
      simp only[VB.c,ZaB,v'M,y'w,v'n,List.eraseIdxIfInBounds_toArray,ZhO]
     rw[e]at this
     exact this
    ·cases h
   ·cases h
  ·cases h
 ·cases h
noncomputable def Zn8 (V:Vh) (b:Nat):Option (List UInt8×Nat):=match v'Y V b with
 |some (.it s p)=>some (s,p)
 |_=>none
theorem Zs1 {V:Vh} {b p:Nat} {s:List UInt8} (h:Zn8 V b=some (s,p)):v'Y V b=some (.it s p):=by
 unfold Zn8 at h
 split at h
 ·rename_i h1;cases h;exact h1
 ·cases h
noncomputable def ZkB (kd:Kd) (x:G) (V:Vh) (nx:Nat):Option (G×Vh×Nat):=match kd,x with
 | .str,.str s=>some (.ptr nx 0,(nx,.it s 0)::V,nx+1)
 |_,_=>none
theorem ZoK {P:Program} (T:Tab P) {o:Oper} {lo:Nat→Prop} {nx nx':Nat} {env:Env} {V V':Vh} {t:TypeId} {x:Operand} {gx g:G} (ho:o.op= .range t x) (hlo: ∀i,nx≤i→lo i) (hV:VOk lo nx V) (hx:gX env x=some gx)
  (h:ZkB (kdT (T.get t)) gx V nx=some (g,V',nx')):w'A P o lo env V nx g V' nx':=by
 unfold ZkB at h
 split at h
 ·rename_i s hkd
  cases h
  refine⟨⟨Nat.le_succ _,(hV.mono (Nat.le_succ _)).cons (hlo _ (z'f _)) (Nat.lt_succ_self _) (fun g hg=>by cases hg),Bel.ptr (hlo _ (z'f _)) (Nat.lt_succ_self _)⟩,fun σ K hn hk=>ZmT T ho ?_⟩
  rw[hkd,z'U hx σ]
  intro b hb
  have:=hk (nm1 σ nx (b,0)) v'q
  have e1:Vn (nm1 σ nx (b,0)) V=Vn σ V:=v'w hV fun i _ hi=>v'q i hi
  simpa only[G.d,ZbC,Zfq,VB.c,e1]using this
 ·cases h
noncomputable def ZnE (x:G) (V:Vh) (nx:Nat):Option (G×Vh×Nat):=match x with
 | .ptr b 0=>match Zn8 V b with
  |some (s,p)=>match gIx s p with
   |none=>some (.tup [.bool false],V,nx)
   |some c=>match Nat.blt c.toNat 128 with
    |true=>ZbM (p+1) fun p'=>Zdu V b (.it s p') fun V'=>some (.tup [.bool true,.int .i64 p,.int .i32 c.toNat],V',nx)
    |false=>none
  |none=>none
 |_=>none
theorem Znl {s:List UInt8} {p:Nat} {c:UInt8} (h:s[p]?=some c) (hc:c.toNat<128):Utf8.decode (x'I s) p=(c.toNat,1):=by
 have e:(x'I s).get! (p+0)=c:=by
  simp only[x'I,ByteArray.get!,x'B]
  rw[z'g]at h
  obtain⟨h1,h2⟩:=h
  rw[getElem!_pos _ _ (by simpa using h1)]
  simpa using h2
 unfold Utf8.decode
 simp only[e]
 rw[if_pos (by omega)]
theorem Zqm {P:Program} {o:Oper} {lo:Nat→Prop} {nx nx':Nat} {env:Env} {V V':Vh} {x:Operand} {gx g:G} (ho:o.op= .next x true) (hV:VOk lo nx V) (hx:gX env x=some gx)
  (h:ZnE gx V nx=some (g,V',nx')):w'A P o lo env V nx g V' nx':=by
 unfold ZnE at h
 split at h
 ·rename_i b
  split at h
  ·rename_i s p hi
   have hA:=Zs1 hi
   split at h
   ·rename_i hc
    rw[w'Q]at hc
    cases h
    refine⟨⟨z'f _,hV,Bel.tup fun y hy=>by rw[z'V]at hy;subst hy;exact Bel.bool⟩,fun σ K hn hk=>Zli ho ?_⟩
    rw[z'U hx σ]
    simp only[cNext,G.d,x'9 hn hA,VB.c]
    have hb:Nat.blt p (x'I s).size=false:=by
     rw[Zae, ←Bool.not_eq_true]
     have:=List.getElem?_eq_none_iff.1 hc
     exact fun e=>absurd (Nat.blt_eq.mp e) (by omega)
    rw[hb]
    exact hk σ fun _ _=>rfl
   ·rename_i c hc
    rw[w'Q]at hc
    split at h
    ·rename_i hb
     have hb:=Nat.blt_eq.mp hb
     rw[ZfV,ZaX]at h
     cases h
     refine⟨⟨z'f _,Zdb hV hA (fun g hg=>by cases hg),Bel.tup fun y hy=>?_⟩,fun σ K hn hK=>?_⟩
     ·simp only[z't,y'D,or_false]at hy
      rcases hy with rfl|rfl|rfl
      ·exact Bel.bool
      ·exact Bel.int
      ·exact Bel.int
     ·refine Zli ho ?_
      rw[z'U hx σ]
      simp only[cNext,G.d,x'9 hn hA,VB.c]
      have hl:Nat.blt p (x'I s).size=true:=by
       obtain⟨h1,_⟩:=z'g.1 hc
       rw[Zae]
       exact Nat.blt_eq.mpr h1
      rw[hl]
      have:=hK σ fun _ _=>rfl
      rw[←Zao (c':= .it s (p+1)) hn hA]at this
      simp only[w'S,Znl hc hb]
      exact this
    ·cases h
  ·cases h
 ·cases h
end Go.Vc
