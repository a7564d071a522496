/- Calls at fixed data, reckoned out: a region that draws its order, in which one operation writes to a block that is there. No condition. -/
import Derived.Test.YtjlnkedmbfdofaaGreatEg
import Derived.Test.YtjlnkedmbfdofaaGreatEm
import Derived.Test.YtjlnkedmbfdofaaGreatEr
namespace Go.Vc
set_option linter.unusedSimpArgs false
set_option linter.unusedVariables false
open Go
mutual
def Zew:G→G→Bool
 | .int k n,.int k' n'=>Nat.beq (kTag k) (kTag k')&&decide (n=n')
 | .bool a,.bool b=>match a,b with|true,true=>true|false,false=>true|_,_=>false
 | .str a,.str b=>decide (a=b)
 | .ptr b o,.ptr b' o'=>Nat.beq b b'&&Nat.beq o o'
 | .sl f e r,.sl f' e' r'=>(match f,f' with|true,true=>true|false,false=>true|_,_=>false)&&(Nat.beq e e'&&Zis r r')
 | .pt l,.pt l'=>ZbF l l'
 | .own b n,.own b' n'=>Nat.beq b b'&&Nat.beq n n'
 | .nils,.nils=>true
 | .off b o n c,.off b' o' n' c'=>(Nat.beq b b'&&Nat.beq o o')&&(Nat.beq n n'&&Nat.beq c c')
 | .agg l,.agg l'=>ZbF l l'
 | .tup l,.tup l'=>ZbF l l'
 | .ifc t g,.ifc t' g'=>Nat.beq t t'&&Zew g g'
 | .fn f l,.fn f' l'=>Nat.beq f f'&&ZbF l l'
 | .mp b,.mp b'=>Nat.beq b b'
 |_,_=>false
def ZbF:List G→List G→Bool
 |[],[]=>true
 |a::r,b::s=>Zew a b&&ZbF r s
 |_,_=>false
def Zis:List (List G)→List (List G)→Bool
 |[],[]=>true
 |a::r,b::s=>ZbF a b&&Zis r s
 |_,_=>false
end
mutual
theorem ZcT: ∀{a b:G},Zew a b=true→a=b:=by
 intro a b h
 cases a<;>cases b<;>simp only[Zew,z'b,decide_eq_true_eq,y'i]at h
 case int.int=>rw[Zb2 (beq_iff_eq.2 (z'd h.1)),h.2]
 case bool.bool a b=>cases a<;>cases b<;>simp_all
 case str.str=>rw[h]
 case ptr.ptr=>rw[z'd h.1,z'd h.2]
 case sl.sl f e r f' e' r'=>
  have h2:=Zhw h.2.2
  have h1:=z'd h.2.1
  cases f<;>cases f'<;>simp_all
 case pt.pt=>rw[v'z h]
 case own.own=>rw[z'd h.1,z'd h.2]
 case nils.nils=>rfl
 case off.off=>rw[z'd h.1.1,z'd h.1.2,z'd h.2.1,z'd h.2.2]
 case agg.agg=>rw[v'z h]
 case tup.tup=>rw[v'z h]
 case ifc.ifc=>rw[z'd h.1,ZcT h.2]
 case fn.fn=>rw[z'd h.1,v'z h.2]
 case mp.mp=>rw[z'd h]
theorem v'z: ∀{a b:List G},ZbF a b=true→a=b:=by
 intro a b h
 cases a<;>cases b<;>simp only[ZbF,z'b,y'i]at h
 ·rfl
 ·rw[ZcT h.1,v'z h.2]
theorem Zhw: ∀{a b:List (List G)},Zis a b=true→a=b:=by
 intro a b h
 cases a<;>cases b<;>simp only[Zis,z'b,y'i]at h
 ·rfl
 ·rw[v'z h.1,Zhw h.2]
end
def ZfH (nx:Nat):Vh→Vh→Bool
 |[],[]=>true
 |p::V,q::W=>(Nat.beq p.1 q.1&&ltI nx (G.idl q.2.l []))&&ZfH nx V W
 |_,_=>false
theorem ZgV {lo:Nat→Prop} {nx nx':Nat}: ∀{V W:Vh},ZfH nx V W=true→VOk lo nx V→VOk lo nx' W→VOk lo nx W∧V.map (·.1)=W.map (·.1)∧ ∀σ τ:Nm,(∀i,i<nx→σ i=τ i)→Vn σ W=Vn τ W
 |[],[],_,_,_=>⟨fun b c h=>(by cases h),rfl,fun _ _ _=>rfl⟩
 |[],q::W,h,_,_=>by cases h
 |p::V,[],h,_,_=>by cases h
 |p::V,q::W,h,hV,hW=>by
  simp only[ZfH,z'b]at h
  obtain⟨⟨h1,h2⟩,h3⟩:=h
  have h1:=z'd h1
  obtain⟨k1,k2,k3⟩:=ZgV h3 (fun b c hm=>hV b c (z'n _ hm)) (fun b c hm=>hW b c (z'n _ hm))
  obtain⟨p1,p2,_⟩:=hV p.1 p.2 (z'k ..)
  obtain⟨q1,q2,q3⟩:=hW q.1 q.2 (z'k ..)
  have hq:BelL lo nx q.2.l:=fun g hg=>(q3 g hg).lt (by
   unfold ltG ltI
   rw[z'h]
   exact fun i hi=>Nat.blt_eq.mpr (ZgE h2 i (Zl9 hg i hi)))
  have p2':q.1<nx:=h1▸p2
  refine⟨fun b c hm=>?_,by rw[z'g,z'g,k2,h1],fun σ τ hag=>?_⟩
  ·rcases z'p.1 hm with hm|hm
   ·cases hm;exact⟨q1,p2',hq⟩
   ·exact k1 b c hm
  ·rw[show q::W=(q.1,q.2)::W from rfl,v'v,v'v,k3 σ τ hag,hag q.1 p2']
   congr 2
   have e1:=ZmY h2 hag
   have e2:=hag q.1 p2'
   revert e1
   cases q.2 with
   |fix ty n l=>intro e1;simp only[VB.c];rw[show l.map (G.d σ)=l.map (G.d τ) from e1]
   |gro e esz l=>intro e1;simp only[VB.c];rw[show l.map (G.d σ)=l.map (G.d τ) from e1,e2]
   |mp es c=>
    intro e1
    have e:es.map (w'1 σ)=es.map (w'1 τ):=z'R fun x hx=>by
     have h1:G.d σ x.2.1=G.d τ x.2.1:=List.map_inj_left.1 e1 x.2.1 (z'o.2 ⟨x,hx,rfl⟩)
     simp only[w'1,h1]
    simp only[VB.c,x'U,e]
   |it s p=>intro _;rfl
theorem ZgH {V W:Vh} (h:V.map (·.1)=W.map (·.1)) {σ:Nm}:V.map (fun p=>(σ p.1).1)=W.map (fun p=>(σ p.1).1):=by
 have e: ∀V:Vh,V.map (fun p=>(σ p.1).1)=(V.map (·.1)).map fun b=>(σ b).1:=fun V=>by rw[List.map_map];rfl
 rw[e V,e W,h]
noncomputable def Zd0 {P:Program} (T:Tab P) (ow:Nat→G→Bool) (w:Gw) (n:Nat) (V V1:Vh) (nx:Nat):Nat→List Oper→Env→Option Env
 |0,_,env=>some env
 |_+1,[],_=>none
 |m+1,o::l,env=>match o.guard with
  |some _=>none
  |none=>match gFr T ow w env V nx o.op,gFr T ow w env V1 nx o.op with
   |some (true,g,_,_),some (true,g',_,_)=>match Zew g' g with
    |true=>Zav n o.dst g env fun env=>Zd0 T ow w n V V1 nx m l env
    |false=>none
   |_,_=>none
noncomputable def Zd1 {P:Program} (T:Tab P) (ow:Nat→G→Bool) (w:Gw) (n:Nat) (ops:Array Oper) (V:Vh) (nx:Nat):Nat→Nat→List Oper→Env→Option (Nat×Env×Vh)
 |0,_,_,_=>none
 |_+1,_,[],_=>none
 |m+1,i,o::l,env=>match v'V n ops o env with
  |0=>none
  |1=>match gFr T ow w env V nx o.op with
   |some (true,g,_,_)=>Zav n o.dst g env fun env'=>match Zd1 T ow w n ops V nx m (i+1) l env' with
    |some (st,envF,V1)=>match z'N ops st i with
     |true=>some (st,envF,V1)
     |false=>match gFr T ow w env V1 nx o.op with
      |some (true,g',_,_)=>match Zew g' g with|true=>some (st,envF,V1)|false=>none
      |_=>none
    |none=>none
   |some (false,_,_,_)=>none
   |none=>match Zgk T ow w env V nx o.op with
    |some (g,V1,_)=>match ZfH nx V V1&&ltG nx g with
     |true=>Zav n o.dst g env fun env=>match Zd0 T ow w n V V1 nx m l env with|some envF=>some (i,envF,V1)|none=>none
     |false=>none
    |none=>none
  |_=>Zav n o.dst (.val undef) env fun env'=>Zd1 T ow w n ops V nx m (i+1) l env'
theorem Zf8 {P:Program} {ops:Array Oper} {ow:Nat→G→Bool} (T:Tab P) (hN:NamesOk P) {w:Gw} (hw:x'w P w) {lo:Nat→Prop} {n nx st:Nat} {W:Nat→Bool} {V V1:Vh} (hV:VOk lo nx V) (hV1:VOk lo nx V1) (hnm:V.map (·.1)=V1.map (·.1)): ∀(m i:Nat) (l:List Oper) (env envF:Env),
  Zd0 T ow w n V V1 nx m l env=some envF→st<i→ELen n env→BelE lo nx env→(ELen n envF∧BelE lo nx envF)∧ ∀(σ:Nm) (K:(Nat→D)→Prop),(Vn σ V).blocks.Nodup→K (cE σ envF)→VCxG T ops W st (Vn σ V) (Vn σ V1) K m i l (cE σ env)
 |0,i,l,env,envF,h,_,hl,he=>by
  simp only[Zd0,z'q]at h
  subst h
  exact⟨⟨hl,he⟩,fun σ K _ hk=>by unfold VCxG;exact hk⟩
 |m+1,i,[],env,envF,h,_,_,_=>by cases h
 |m+1,i,o::l,env,envF,h,hi,hl,he=>by
  unfold Zd0 at h
  split at h
  ·cases h
  rename_i hg
  split at h
  ·rename_i g a1 a2 g' a3 a4 h1 h2
   split at h
   ·rename_i hq
    have hq:=ZcT hq
    subst hq
    obtain⟨b1,b2⟩:=Zbl T hN hw (z'c _) hV he h1
    obtain⟨c1,c2⟩:=Zbl T hN hw (z'c _) hV1 he h2
    replace h:=w'G h
    obtain⟨hd,h⟩:=h
    obtain⟨r1,r2⟩:=Zf8 (ops:=ops) (st:=st) (W:=W) T hN hw hV hV1 hnm m (i+1) l _ envF h (by omega) (w'a hl) (x'9 he b1)
    refine⟨r1,fun σ K hn hk=>⟨g'.d σ,.inl ⟨.inl hg,fun _=>⟨b2 σ hn,.inr (c2 σ ?_)⟩,fun e=>by omega⟩,?_⟩⟩
    ·rw[x'Z]at hn⊢
     rw[←ZgH hnm];exact hn
    ·have:=r2 σ K hn hk
     rw[w'V hd hl]at this
     exact this
   ·cases h
  ·cases h
theorem Zds {P:Program} {ow:Nat→G→Bool} (T:Tab P) (hN:NamesOk P) {w:Gw} (hw:x'w P w) {lo:Nat→Prop} {n nx:Nat} {ops:Array Oper} {V:Vh} (hV:VOk lo nx V) (hup: ∀i,nx≤i→lo i): ∀(m i:Nat) (l:List Oper) (env:Env) (st:Nat) (envF:Env) (V1:Vh),
  Zd1 T ow w n ops V nx m i l env=some (st,envF,V1)→ELen n env→BelE lo nx env→(((i≤st∧st<i+m)∧VOk lo nx V1∧V.map (·.1)=V1.map (·.1))∧ELen n envF∧BelE lo nx envF)∧
   ∀(σ:Nm) (K:(Nat→D)→Prop),(Vn σ V).blocks.Nodup→K (cE σ envF)→VCxG T ops (fun k=>z'N ops st k) st (Vn σ V) (Vn σ V1) K m i l (cE σ env)
 |0,i,l,env,st,envF,V1,h,_,_=>by cases h
 |m+1,i,[],env,st,envF,V1,h,_,_=>by cases h
 |m+1,i,o::l,env,st,envF,V1,h,hl,he=>by
  unfold Zd1 at h
  have at1: ∀σ (t:Nat),cE σ env t=(eAt env t).d σ:=fun σ t=>Zbv σ
  have nod: ∀{W:Vh} {σ:Nm},V.map (·.1)=W.map (·.1)→(Vn σ V).blocks.Nodup→(Vn σ W).blocks.Nodup:=fun{W σ} hnm hn=>by
   rw[x'Z]at hn⊢
   rw[←ZgH hnm];exact hn
  split at h
  ·cases h
  case h_3=>
   rename_i hg0 hg1
   replace h:=w'G h
   obtain⟨hd,h⟩:=h
   obtain⟨⟨⟨r1,r2,r3⟩,r4,r5⟩,r6⟩:=Zds T hN hw hV hup m (i+1) l _ st envF V1 h (w'a hl) (x'9 he Bel.val)
   refine⟨⟨⟨⟨by omega,by omega⟩,r2,r3⟩,r4,r5⟩,fun σ K hn hk=>⟨.is undef,.inr ⟨by omega,?_,rfl⟩,?_⟩⟩
   ·obtain⟨j,want,t,hgu,hj,_,hat⟩:=Za7 (fun e=>hg0 (by rw[e])) (fun e=>hg1 (by rw[e]))
    refine⟨j,want,t,hgu,hj,?_⟩
    rcases hat with hat|hat
    ·exact .inl (by rw[at1,hat];rfl)
    ·exact .inr (by rw[at1,hat];rfl)
   ·have:=r6 σ K hn hk
    rw[w'V hd hl]at this
    exact this
  rename_i hg1
  have hg: ∀σ,GdG ops (cE σ env) o:=fun σ=>by
   rcases ZbH hg1 with hgu|⟨j,want,t,hgu,hj,_,hat⟩
   ·exact .inl hgu
   ·exact .inr ⟨j,want,t,hgu,hj,by rw[at1,hat];rfl⟩
  split at h
  ·rename_i g a1 a2 h1
   obtain⟨b1,b2⟩:=Zbl T hN hw (z'c _) hV he h1
   replace h:=w'G h
   obtain⟨hd,h⟩:=h
   split at h
   ·rename_i st' envF' V1' hrec
    obtain⟨⟨⟨r1,r2,r3⟩,r4,r5⟩,r6⟩:=Zds T hN hw hV hup m (i+1) l _ st' envF' V1' hrec (w'a hl) (x'9 he b1)
    split at h
    ·rename_i hw'
     cases h
     refine⟨⟨⟨⟨by omega,by omega⟩,r2,r3⟩,r4,r5⟩,fun σ K hn hk=>⟨g.d σ,.inl ⟨hg σ,fun _=>⟨b2 σ hn,.inl hw'⟩,fun e=>by omega⟩,?_⟩⟩
     have:=r6 σ K hn hk
     rw[w'V hd hl]at this
     exact this
    ·split at h
     ·rename_i g' a3 a4 h2
      split at h
      ·rename_i hq
       have hq:=ZcT hq
       subst hq
       cases h
       obtain⟨c1,c2⟩:=Zbl T hN hw (z'c _) r2 he h2
       refine⟨⟨⟨⟨by omega,by omega⟩,r2,r3⟩,r4,r5⟩,fun σ K hn hk=>⟨g'.d σ,.inl ⟨hg σ,fun _=>⟨b2 σ hn,.inr (c2 σ (nod r3 hn))⟩,fun e=>by omega⟩,?_⟩⟩
       have:=r6 σ K hn hk
       rw[w'V hd hl]at this
       exact this
      ·cases h
     ·cases h
   ·cases h
  ·cases h
  ·split at h
   ·rename_i g V1' nx1 hop
    split at h
    ·rename_i hb
     rw[z'b]at hb
     obtain⟨⟨m1,m2,m3⟩,m4⟩:=ZhD T hN hw hup hV he hop
     obtain⟨s1,s2,s3⟩:=ZgV hb.1 hV m2
     have hbg:=m3.lt hb.2
     replace h:=w'G h
     obtain⟨hd,h⟩:=h
     split at h
     ·rename_i envF' hA
      cases h
      obtain⟨r1,r2⟩:=Zf8 (ops:=ops) (st:=i) (W:=fun k=>z'N ops i k) T hN hw hV s1 s2 m (i+1) l _ _ hA (by omega) (w'a hl) (x'9 he hbg)
      refine⟨⟨⟨⟨z'c _,by omega⟩,s1,s2⟩,r1⟩,fun σ K hn hk=>⟨g.d σ,.inl ⟨hg σ,fun e=>absurd rfl e,fun _=>?_⟩,?_⟩⟩
      ·refine Op1.opS (m4 σ _ hn fun σ' hag=>⟨.inr (ZjL hb.2 hag),s3 σ' σ hag⟩)
      ·have:=r2 σ K hn hk
       rw[w'V hd hl]at this
       exact this
     ·cases h
    ·cases h
   ·cases h
end Go.Vc
