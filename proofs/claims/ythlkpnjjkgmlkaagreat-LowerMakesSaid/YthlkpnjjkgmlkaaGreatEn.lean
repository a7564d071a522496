/- A region that draws its order, in which some moves may float: they are carried out first. No condition. -/
import Derived.Test.YthlkpnjjkgmlkaaGreatK2
import Derived.Test.YthlkpnjjkgmlkaaGreatEg
namespace Go.Vc
set_option linter.unusedSimpArgs false
set_option linter.unusedVariables false
open Go
def ZjH:Op→Bool
 | .move _| .assign _| .extract .. =>true
 |_=>false
theorem ZnK {P:Program} {o:Oper} {ε:Operand→Value} (hf:ZjH o.op=true):(∃v, ∀w,(execOp ε o).run P w= .ok (.value v) w)∨(∀w, ∃s,(execOp ε o).run P w= .halt (.stuck s) w):=by
 unfold ZjH at hf
 split at hf
 ·rename_i x ho;exact .inl ⟨ε x,fun w=>by simp only[execOp,ho];rfl⟩
 ·rename_i x ho;exact .inl ⟨ε x,fun w=>by simp only[execOp,ho];rfl⟩
 ·rename_i t i ho
  cases ht:ε t with
  |tuple vs=>
   cases hi:vs[i]? with
   |some v=>exact .inl ⟨v,fun w=>by simp only[execOp,ho,ht,Instr.extract,hi];rfl⟩
   |none=>exact .inr fun w=>⟨_,by simp only[execOp,ho,ht,Instr.extract,hi];rfl⟩
  |_=>exact .inr fun w=>⟨_,by simp only[execOp,ho,ht,Instr.extract];rfl⟩
 ·cases hf
def ZdH (ops:Array Oper) (k:Nat):Bool:=match ops[k]? with
 |some ok=>(match ok.guard with|none=>ZjH ok.op|some _=>false)&&(List.range ops.size).all fun j=>Nat.beq j k||match ops[j]? with
   |some oj=>oj.after.any (fun e=>Region.binds .any e&&e.on == k)||ok.apart ops oj||ok.after.any (fun e=>Region.binds .any e&&e.on == j)
   |none=>true
 |none=>false
section
variable {P : Program} {x : Ctx} {ops : Array Oper} {f : Nat} {res : Nat → FRes} {H : Heap} {E : Nat → D} {a0 : Act} {ws : World}
theorem Zmv (hB:w'o ops f) (hs0:SRel x ⟨E,H⟩ a0 ws) {Q:Exit→Act→World→Prop} (hQ: ∀c a w, ¬Q (.panic c) a w) (hsel:Region.noSelect ops=true) (hdst: ∀k t,z'U ops k=some t→t<x.n) {blk:Nat→List Nat} {listed:Array Bool} {a:Act} {w:World}
  (h:FInv x ops f res H a0 ws blk listed a w) {k fuel:Nat} (hk:ZdH ops k=true) (hr:k∈Region.ready .any ops listed) (hkf:k<f) (hok: ∃o,ops[k]?=some o∧FOk P ops (y'G ops 0 E res k) H o (res k))
  (ih: ∀blk' a',FInv x ops f res H a0 ws blk' (listed.setIfInBounds k true) a' w→wpAny P .any ops Q fuel (listed.setIfInBounds k true) a' w):wpAny P .any ops Q (fuel+1) listed a w:=by
 obtain⟨hks,hkl,o,ho,hready⟩:=y'Q h.lsize hr
 unfold ZdH at hk
 rw[ho]at hk
 simp only[z'd]at hk
 obtain⟨hk1,hk2⟩:=hk
 split at hk1
 case h_2=>cases hk1
 rename_i hg
 have hstep:=h.step hB hs0 (Q:=fun _ _ _=>False) hdst hr hkf hok
 unfold wpOp at hstep
 rw[ho]at hstep
 simp only at hstep
 rw[if_pos (by simp[Region.wanted,hg])]at hstep
 have hstep:o.wp P a w (fun a' w'=> ∃blk',FInv x ops f res H a0 ws blk' (listed.setIfInBounds k true) a' w') (fun _ _ _=>False):=by
  rcases hstep with h1|⟨_,_,_,h1⟩
  ·exact h1
  ·exact h1.elim
 unfold Oper.wp at hstep
 rcases ZnK (P:=P) (ε:=a.eval) hk1 with⟨v,hv⟩|hst
 ·rw[hv w]at hstep
  obtain⟨blk',hF⟩:=hstep
  refine wpAny_first (v:=v) ho (Region.noSelect_spec hsel) (fun c a w h'=>absurd h' (hQ c _ _)) fuel listed a w ?_ hr (.inl ⟨by simp[Region.wanted,hg],hv⟩) (ih blk' _ hF)
  intro j oj hj hjk hju hno
  have hjs:j<ops.size:=(Array.getElem?_eq_some_iff.1 hj).1
  have h1:=z'l.1 hk2 j (z'Q.2 hjs)
  simp only[hj,z'1]at h1
  rcases h1 with h1|⟨h1|h1⟩|h1
  ·exact absurd (z's h1) hjk
  ·obtain⟨e,he,hb⟩:=Array.any_eq_true'.1 h1
   simp only[z'd,beq_iff_eq]at hb
   exact absurd hb.2 (hno e he hb.1)
  ·rename_i h1;exact h1
  ·obtain⟨e,he,hb⟩:=Array.any_eq_true'.1 h1
   simp only[z'd,beq_iff_eq]at hb
   have:=hready e he hb.1
   rw[hb.2]at this
   have h3:=(y'm (by rw[h.lsize];exact hjs)).2 this
   rw[hju]at h3;cases h3
 ·obtain⟨s,hs⟩:=hst w
  rw[hs]at hstep
  exact hstep.elim
theorem ZmP (hB:w'o ops f) (hs0:SRel x ⟨E,H⟩ a0 ws) {Q:Exit→Act→World→Prop} (hQ: ∀c a w, ¬Q (.panic c) a w) (hsel:Region.noSelect ops=true) {fl:Nat→Bool} {s e:Nat} (hef:e≤f)
  (bar: ∀i,e≤i→i<ops.size→ ∀k,s≤k→k<e→fl k=false→y'B ops i k=true) (hfl: ∀k,s≤k→k<e→fl k=true→ZdH ops k=true)
  (hok: ∀j,s≤j→j<e→ ∃o,ops[j]?=some o∧FOk P ops (y'G ops 0 E res j) H o (res j)) (hdst: ∀k t,z'U ops k=some t→t<x.n)
  (hfin: ∀blk listed a w,(∀k,isL listed k↔k<e)→FInv x ops f res H a0 ws blk listed a w→wpAny P .any ops Q (ops.size-e) listed a w):
  ∀(fuel:Nat) (blk:Nat→List Nat) (listed:Array Bool) (a:Act) (w:World),unl listed ops.size=fuel→(∀k,k<s→isL listed k)→(∀k,isL listed k→k<e)→FInv x ops f res H a0 ws blk listed a w→wpAny P .any ops Q fuel listed a w:=by
 have hes:e≤ops.size:=y'b hef hB.le
 intro fuel
 induction fuel with
 |zero=>
  intro blk listed a w hu hlow hup h
  have all: ∀k,k<ops.size→isL listed k:=fun k hk=>ZaM h.lsize hu hk
  have hl: ∀k,isL listed k↔k<e:=fun k=>⟨hup k,fun hk=>all k (by omega)⟩
  have he:ops.size-e=0:=by
   rcases y'K hes with h'|h'
   ·omega
   ·have:=hup e (all e h');omega
  have:=hfin blk listed a w hl h
  rwa [he]at this
 |succ fuel ih=>
  intro blk listed a w hu hlow hup h
  by_cases hall: ∀k,k<e→isL listed k
  ·have hl: ∀k,isL listed k↔k<e:=fun k=>⟨hup k,hall k⟩
   have hcount:ops.size-e=fuel+1:=by
    have key: ∀m,m≤ops.size→((List.range m).filter fun k=> !listed.getD k true).length=m-e:=by
     intro m
     induction m with
     |zero=>intro _;simp
     |succ m ihm=>
      intro hm
      rw[y'I,z'7,z'e,ihm (by omega)]
      by_cases hmf:m<e
      ·have:listed.getD m true=true:=(y'm (by rw[h.lsize];omega)).2 ((hl m).2 hmf)
       rw[y'C,this];simp;omega
      ·have:listed.getD m true=false:=by
        cases hq:listed.getD m true with
        |false=>rfl
        |true=>exact absurd ((hl m).1 ((y'm (by rw[h.lsize];omega)).1 hq)) hmf
       rw[y'C,this];simp;omega
    have:=key ops.size (z'c _)
    unfold unl at hu
    omega
   have:=hfin blk listed a w hl h
   rwa [hcount]at this
  ·have hex: ∃k,k<e∧ ¬isL listed k:=by
    refine z'C fun hn=>hall fun k hk=>z'C fun hkl=>hn ⟨k,hk,hkl⟩
   have least: ∀m, ∀k,k≤m→k<e→ ¬isL listed k→ ∃k',k'<e∧ ¬isL listed k'∧ ∀l,l<k'→isL listed l:=by
    intro m
    induction m with
    |zero=>intro k hk hkf hkl;exact⟨k,hkf,hkl,fun l hl=>by omega⟩
    |succ m ihm=>
     intro k hk hkf hkl
     by_cases hp: ∀l,l<k→isL listed l
     ·exact⟨k,hkf,hkl,hp⟩
     ·have: ∃l,l<k∧ ¬isL listed l:=z'C fun hn=>hp fun l hl=>z'C fun hll=>hn ⟨l,hl,hll⟩
      obtain⟨l,h1,h2⟩:=this
      exact ihm l (by omega) (by omega) h2
   obtain⟨k0,hk0f,hk0⟩:=hex
   obtain⟨k,hkf,hkl,hkp⟩:=least k0 k0 (z'c _) hk0f hk0
   have hks:k<ops.size:=z'N hkf hes
   have hready:k∈Region.ready .any ops listed:=by
    refine mem_ready.2 ⟨?_,ops[k],by simp[hks],fun ed he hb=>?_⟩
    ·cases hq:listed.getD k true with
     |false=>rfl
     |true=>exact absurd ((y'm (by rw[h.lsize];omega)).1 hq) hkl
    ·have hlt:=hB.back k ops[k] (by simp[hks]) ed he hb
     have:=hkp ed.on hlt
     unfold isL at this
     rw[z'4,this];rfl
   have hsk: ∀k, ¬isL listed k→s≤k:=fun k hn=>by
    rcases z'g k s with h'|h'
    ·exact absurd (hlow k h') hn
    ·exact h'
   by_cases hall2: ∀k,k<e→fl k=false→isL listed k
   ·have hfk:fl k=true:=by
     cases hq:fl k with
     |true=>rfl
     |false=>exact absurd (hall2 k hkf hq) hkl
    have hisz:k<listed.size:=by rw[h.lsize];exact hks
    refine Zmv hB hs0 hQ hsel hdst h (hfl k (hsk k hkl) hkf hfk) hready (by omega) (hok k (hsk k hkl) hkf) fun blk' a' hF=>ih blk' _ a' w ?_ (fun l hl=>(x'u hisz).2 (.inr (hlow l hl))) (fun l hl=>?_) hF
    ·have:=Za3 h.lsize hks hkl
     omega
    ·rcases(x'u hisz).1 hl with rfl|hl
     ·exact hkf
     ·exact hup l hl
   ·obtain⟨q,hqe,hqf,hql⟩: ∃q,q<e∧fl q=false∧ ¬isL listed q:=z'C fun hn=>hall2 fun q h1 h2=>z'C fun h3=>hn ⟨q,h1,h2,h3⟩
    refine⟨fun h0=>by rw[h0]at hready;exact absurd hready y'P,fun i hi=>?_⟩
    obtain⟨h1,h2,o,ho,hr⟩:=y'Q h.lsize hi
    have hie:i<e:=by
     rcases z'g i e with h'|h'
     ·exact h'
     ·exfalso
      have he:=bar i h' h1 q (hsk q hql) hqe hqf
      exact hql (y'U (S:=isL listed) (fun j' ed hj' he'=>by
       obtain⟨oj,ed,q1,q2,q3,rfl⟩:=y'z.1 he'
       exact h.down j' oj q1 hj' ed q2 q3) _ i q (fun ed he'=>by
       obtain⟨oj,ed,q1,q2,q3,rfl⟩:=y'z.1 he'
       rw[ho]at q1;cases q1
       exact hr ed q2 q3) he)
    have hisz:i<listed.size:=by rw[h.lsize];exact h1
    refine wpOp_mono (fun a' w' ⟨blk',h'⟩=>ih blk' _ a' w' ?_ (fun l hl=>(x'u hisz).2 (.inr (hlow l hl))) (fun k hk=>?_) h') (h.step hB hs0 hdst hi (by omega) (hok i (hsk i h2) hie))
    ·have:=Za3 h.lsize h1 h2
     omega
    ·rcases(x'u hisz).1 hk with rfl|hk
     ·exact hie
     ·exact hup k hk
end
def Zcp (ops:Array Oper) (e k:Nat):Bool:=(List.range ops.size).any fun i=>Nat.ble e i&& !y'B ops i k
mutual
def ZhT:G→G→Bool
 | .int k n,.int k' n'=>Nat.beq (kTag k) (kTag k')&&decide (n=n')
 | .bool a,.bool b=>match a,b with|true,true=>true|false,false=>true|_,_=>false
 | .str a,.str b=>decide (a=b)
 | .ptr b o,.ptr b' o'=>Nat.beq b b'&&Nat.beq o o'
 | .sl f e r,.sl f' e' r'=>(match f,f' with|true,true=>true|false,false=>true|_,_=>false)&&(Nat.beq e e'&&ZmE r r')
 | .pt l,.pt l'=>ZeV l l'
 | .own b n,.own b' n'=>Nat.beq b b'&&Nat.beq n n'
 | .nils,.nils=>true
 | .off b o n c,.off b' o' n' c'=>(Nat.beq b b'&&Nat.beq o o')&&(Nat.beq n n'&&Nat.beq c c')
 | .agg l,.agg l'=>ZeV l l'
 | .tup l,.tup l'=>ZeV l l'
 | .ifc t g,.ifc t' g'=>Nat.beq t t'&&ZhT g g'
 | .fn f l,.fn f' l'=>Nat.beq f f'&&ZeV l l'
 | .mp b,.mp b'=>Nat.beq b b'
 |_,_=>false
def ZeV:List G→List G→Bool
 |[],[]=>true
 |a::r,b::s=>ZhT a b&&ZeV r s
 |_,_=>false
def ZmE:List (List G)→List (List G)→Bool
 |[],[]=>true
 |a::r,b::s=>ZeV a b&&ZmE r s
 |_,_=>false
end
mutual
theorem ZfA: ∀{a b:G},ZhT a b=true→a=b:=by
 intro a b h
 cases a<;>cases b<;>simp only[ZhT,z'd,decide_eq_true_eq,y'x]at h
 case int.int=>rw[ZeA (beq_iff_eq.2 (z's h.1)),h.2]
 case bool.bool a b=>cases a<;>cases b<;>simp_all
 case str.str=>rw[h]
 case ptr.ptr=>rw[z's h.1,z's h.2]
 case sl.sl f e r f' e' r'=>
  have h2:=Zlw h.2.2
  have h1:=z's h.2.1
  cases f<;>cases f'<;>simp_all
 case pt.pt=>rw[Zcq h]
 case own.own=>rw[z's h.1,z's h.2]
 case nils.nils=>rfl
 case off.off=>rw[z's h.1.1,z's h.1.2,z's h.2.1,z's h.2.2]
 case agg.agg=>rw[Zcq h]
 case tup.tup=>rw[Zcq h]
 case ifc.ifc=>rw[z's h.1,ZfA h.2]
 case fn.fn=>rw[z's h.1,Zcq h.2]
 case mp.mp=>rw[z's h]
theorem Zcq: ∀{a b:List G},ZeV a b=true→a=b:=by
 intro a b h
 cases a<;>cases b<;>simp only[ZeV,z'd,y'x]at h
 ·rfl
 ·rw[ZfA h.1,Zcq h.2]
theorem Zlw: ∀{a b:List (List G)},ZmE a b=true→a=b:=by
 intro a b h
 cases a<;>cases b<;>simp only[ZmE,z'd,y'x]at h
 ·rfl
 ·rw[Zcq h.1,Zlw h.2]
end
def Zjg (nx:Nat):Vh→Vh→Bool
 |[],[]=>true
 |p::V,q::W=>(Nat.beq p.1 q.1&&ltI nx (G.idl q.2.l []))&&Zjg nx V W
 |_,_=>false
theorem ZkO {lo:Nat→Prop} {nx nx':Nat}: ∀{V W:Vh},Zjg nx V W=true→VOk lo nx V→VOk lo nx' W→VOk lo nx W∧V.map (·.1)=W.map (·.1)∧ ∀σ τ:Nm,(∀i,i<nx→σ i=τ i)→Vn σ W=Vn τ W
 |[],[],_,_,_=>⟨fun b c h=>(by cases h),rfl,fun _ _ _=>rfl⟩
 |[],q::W,h,_,_=>by cases h
 |p::V,[],h,_,_=>by cases h
 |p::V,q::W,h,hV,hW=>by
  simp only[Zjg,z'd]at h
  obtain⟨⟨h1,h2⟩,h3⟩:=h
  have h1:=z's h1
  obtain⟨k1,k2,k3⟩:=ZkO h3 (fun b c hm=>hV b c (z'o _ hm)) (fun b c hm=>hW b c (z'o _ hm))
  obtain⟨p1,p2,_⟩:=hV p.1 p.2 (z't ..)
  obtain⟨q1,q2,q3⟩:=hW q.1 q.2 (z't ..)
  have hq:BelL lo nx q.2.l:=fun g hg=>(q3 g hg).lt (by
   unfold ltG ltI
   rw[z'l]
   exact fun i hi=>Nat.blt_eq.mpr (Zkp h2 i (Zrt hg i hi)))
  have p2':q.1<nx:=h1▸p2
  refine⟨fun b c hm=>?_,by rw[z'p,z'p,k2,h1],fun σ τ hag=>?_⟩
  ·rcases z'v.1 hm with hm|hm
   ·cases hm;exact⟨q1,p2',hq⟩
   ·exact k1 b c hm
  ·rw[show q::W=(q.1,q.2)::W from rfl,Zbu,Zbu,k3 σ τ hag,hag q.1 p2']
   congr 2
   have e1:=Zsx h2 hag
   have e2:=hag q.1 p2'
   revert e1
   cases q.2 with
   |fix ty n l=>intro e1;simp only[VB.c];rw[show l.map (G.d σ)=l.map (G.d τ) from e1]
   |gro e esz l=>intro e1;simp only[VB.c];rw[show l.map (G.d σ)=l.map (G.d τ) from e1,e2]
   |mp es c=>
    intro e1
    have e:es.map (ZaD σ)=es.map (ZaD τ):=y'N fun x hx=>by
     have h1:G.d σ x.2.1=G.d τ x.2.1:=List.map_inj_left.1 e1 x.2.1 (z'w.2 ⟨x,hx,rfl⟩)
     simp only[ZaD,h1]
    simp only[VB.c,v'p,e]
   |it s p=>intro _;rfl
theorem Zku {V W:Vh} (h:V.map (·.1)=W.map (·.1)) {σ:Nm}:V.map (fun p=>(σ p.1).1)=W.map (fun p=>(σ p.1).1):=by
 have e: ∀V:Vh,V.map (fun p=>(σ p.1).1)=(V.map (·.1)).map fun b=>(σ b).1:=fun V=>by rw[List.map_map];rfl
 rw[e V,e W,h]
noncomputable def Zg5 {P:Program} (T:Tab P) (ow:Nat→G→Bool) (w:Gw) (n:Nat) (V V1:Vh) (nx:Nat):Nat→List Oper→Env→Option Env
 |0,_,env=>some env
 |_+1,[],_=>none
 |m+1,o::l,env=>match o.guard with
  |some _=>none
  |none=>match gFr T ow w env V nx o.op,gFr T ow w env V1 nx o.op with
   |some (true,g,_,_),some (true,g',_,_)=>match ZhT g' g with
    |true=>Zdt n o.dst g env fun env=>Zg5 T ow w n V V1 nx m l env
    |false=>none
   |_,_=>none
noncomputable def Zi8 {P:Program} (T:Tab P) (ow:Nat→G→Bool) (w:Gw) (n:Nat) (ops:Array Oper) (V:Vh) (nx:Nat):Nat→Nat→List Oper→Env→Option (Nat×Env×Vh)
 |0,_,_,_=>none
 |_+1,_,[],_=>none
 |m+1,i,o::l,env=>match o.guard with
  |some _=>none
  |none=>match gFr T ow w env V nx o.op with
   |some (true,g,_,_)=>Zdt n o.dst g env fun env'=>match Zi8 T ow w n ops V nx m (i+1) l env' with
    |some (st,envF,V1)=>match y'B ops st i with
     |true=>some (st,envF,V1)
     |false=>match gFr T ow w env V1 nx o.op with
      |some (true,g',_,_)=>match ZhT g' g with|true=>some (st,envF,V1)|false=>none
      |_=>none
    |none=>none
   |some (false,_,_,_)=>none
   |none=>match Zj4 T ow w env V nx o.op with
    |some (g,V1,_)=>match Zjg nx V V1&&ltG nx g with
     |true=>Zdt n o.dst g env fun env=>match Zg5 T ow w n V V1 nx m l env with|some envF=>some (i,envF,V1)|none=>none
     |false=>none
    |none=>none
theorem ZjR {P:Program} {ow:Nat→G→Bool} (T:Tab P) (hN:NamesOk P) {w:Gw} (hw:v'n P w) {lo:Nat→Prop} {n nx st:Nat} {W:Nat→Bool} {V V1:Vh} (hV:VOk lo nx V) (hV1:VOk lo nx V1) (hnm:V.map (·.1)=V1.map (·.1)): ∀(m i:Nat) (l:List Oper) (env envF:Env),
  Zg5 T ow w n V V1 nx m l env=some envF→st<i→ELen n env→BelE lo nx env→(ELen n envF∧BelE lo nx envF)∧ ∀(σ:Nm) (K:(Nat→D)→Prop),(Vn σ V).blocks.Nodup→K (cE σ envF)→VCx T W st (Vn σ V) (Vn σ V1) K m i l (cE σ env)
 |0,i,l,env,envF,h,_,hl,he=>by
  simp only[Zg5,z'L]at h
  subst h
  exact⟨⟨hl,he⟩,fun σ K _ hk=>by unfold VCx;exact hk⟩
 |m+1,i,[],env,envF,h,_,_,_=>by cases h
 |m+1,i,o::l,env,envF,h,hi,hl,he=>by
  unfold Zg5 at h
  split at h
  ·cases h
  rename_i hg
  split at h
  ·rename_i g a1 a2 g' a3 a4 h1 h2
   split at h
   ·rename_i hq
    have hq:=ZfA hq
    subst hq
    obtain⟨b1,b2⟩:=ZdL T hN hw (z'c _) hV he h1
    obtain⟨c1,c2⟩:=ZdL T hN hw (z'c _) hV1 he h2
    replace h:=ZaY h
    obtain⟨hd,h⟩:=h
    obtain⟨r1,r2⟩:=ZjR (st:=st) (W:=W) T hN hw hV hV1 hnm m (i+1) l _ envF h (by omega) (v'6 hl) (v'5 he b1)
    refine⟨r1,fun σ K hn hk=>⟨g'.d σ,⟨hg,fun _=>⟨b2 σ hn,.inr (c2 σ ?_)⟩,fun e=>by omega⟩,?_⟩⟩
    ·rw[v'u]at hn⊢
     rw[←Zku hnm];exact hn
    ·have:=r2 σ K hn hk
     rw[Zbp hd hl]at this
     exact this
   ·cases h
  ·cases h
theorem ZjS {P:Program} {ow:Nat→G→Bool} (T:Tab P) (hN:NamesOk P) {w:Gw} (hw:v'n P w) {lo:Nat→Prop} {n nx:Nat} {ops:Array Oper} {V:Vh} (hV:VOk lo nx V) (hup: ∀i,nx≤i→lo i): ∀(m i:Nat) (l:List Oper) (env:Env) (st:Nat) (envF:Env) (V1:Vh),
  Zi8 T ow w n ops V nx m i l env=some (st,envF,V1)→ELen n env→BelE lo nx env→(((i≤st∧st<i+m)∧VOk lo nx V1∧V.map (·.1)=V1.map (·.1))∧ELen n envF∧BelE lo nx envF)∧
   ∀(σ:Nm) (K:(Nat→D)→Prop),(Vn σ V).blocks.Nodup→K (cE σ envF)→VCx T (fun k=>y'B ops st k) st (Vn σ V) (Vn σ V1) K m i l (cE σ env)
 |0,i,l,env,st,envF,V1,h,_,_=>by cases h
 |m+1,i,[],env,st,envF,V1,h,_,_=>by cases h
 |m+1,i,o::l,env,st,envF,V1,h,hl,he=>by
  unfold Zi8 at h
  split at h
  ·cases h
  rename_i hg
  have nod: ∀{W:Vh} {σ:Nm},V.map (·.1)=W.map (·.1)→(Vn σ V).blocks.Nodup→(Vn σ W).blocks.Nodup:=fun{W σ} hnm hn=>by
   rw[v'u]at hn⊢
   rw[←Zku hnm];exact hn
  split at h
  ·rename_i g a1 a2 h1
   obtain⟨b1,b2⟩:=ZdL T hN hw (z'c _) hV he h1
   replace h:=ZaY h
   obtain⟨hd,h⟩:=h
   split at h
   ·rename_i st' envF' V1' hrec
    obtain⟨⟨⟨r1,r2,r3⟩,r4,r5⟩,r6⟩:=ZjS T hN hw hV hup m (i+1) l _ st' envF' V1' hrec (v'6 hl) (v'5 he b1)
    split at h
    ·rename_i hw'
     cases h
     refine⟨⟨⟨⟨by omega,by omega⟩,r2,r3⟩,r4,r5⟩,fun σ K hn hk=>⟨g.d σ,⟨hg,fun _=>⟨b2 σ hn,.inl hw'⟩,fun e=>by omega⟩,?_⟩⟩
     have:=r6 σ K hn hk
     rw[Zbp hd hl]at this
     exact this
    ·split at h
     ·rename_i g' a3 a4 h2
      split at h
      ·rename_i hq
       have hq:=ZfA hq
       subst hq
       cases h
       obtain⟨c1,c2⟩:=ZdL T hN hw (z'c _) r2 he h2
       refine⟨⟨⟨⟨by omega,by omega⟩,r2,r3⟩,r4,r5⟩,fun σ K hn hk=>⟨g'.d σ,⟨hg,fun _=>⟨b2 σ hn,.inr (c2 σ (nod r3 hn))⟩,fun e=>by omega⟩,?_⟩⟩
       have:=r6 σ K hn hk
       rw[Zbp hd hl]at this
       exact this
      ·cases h
     ·cases h
   ·cases h
  ·cases h
  ·split at h
   ·rename_i g V1' nx1 hop
    split at h
    ·rename_i hb
     rw[z'd]at hb
     obtain⟨⟨m1,m2,m3⟩,m4⟩:=ZlC T hN hw hup hV he hop
     obtain⟨s1,s2,s3⟩:=ZkO hb.1 hV m2
     have hbg:=m3.lt hb.2
     replace h:=ZaY h
     obtain⟨hd,h⟩:=h
     split at h
     ·rename_i envF' hA
      cases h
      obtain⟨r1,r2⟩:=ZjR (st:=i) (W:=fun k=>y'B ops i k) T hN hw hV s1 s2 m (i+1) l _ _ hA (by omega) (v'6 hl) (v'5 he hbg)
      refine⟨⟨⟨⟨z'c _,by omega⟩,s1,s2⟩,r1⟩,fun σ K hn hk=>⟨g.d σ,⟨hg,fun e=>absurd rfl e,fun _=>?_⟩,?_⟩⟩
      ·refine Op1.opS (m4 σ _ hn fun σ' hag=>⟨.inr (Zn9 hb.2 hag),s3 σ' σ hag⟩)
      ·have:=r2 σ K hn hk
       rw[Zbp hd hl]at this
       exact this
     ·cases h
    ·cases h
   ·cases h
theorem ZjI {ops:Array Oper} {e k i:Nat} (h:Zcp ops e k=false) (h1:e≤i) (h2:i<ops.size):y'B ops i k=true:=by
 unfold Zcp at h
 have:=List.any_eq_false.1 h i (z'Q.2 h2)
 simp only[z'd,z'y,not_and,Bool.not_eq_false]at this
 exact this (by rw[Nat.ble_eq];exact h1)
def Zjh (ops:Array Oper) (s e:Nat):Bool:=Region.noSelect ops&&(List.range e).all fun k=>Nat.blt k s||(!Zcp ops e k||ZdH ops k)
theorem Zm6 {ops:Array Oper} {s e k:Nat} (h:((List.range e).all fun k=>Nat.blt k s||(!Zcp ops e k||ZdH ops k))=true) (h0:s≤k) (h1:k<e) (h2:Zcp ops e k=true):ZdH ops k=true:=by
 have:=z'l.1 h k (z'Q.2 h1)
 rw[h2,z'1]at this
 rcases this with h'|h'
 ·have:=Nat.blt_eq.mp h';omega
 ·simpa using h'
theorem VCd.groupF {P : Program} (T : Tab P) {n : Nat} {ops : Array Oper} {s : Nat} {E : Nat → D} {H : Heap} {Q : Exit → St → Prop} (hQ : ∀ c s', ¬ Q (.panic c) s') (e f : Nat) (hse : Nat.ble s e = true) (hef : Nat.ble e f = true) (hB : v'o ops f = true) (hbar : Zjh ops s e = true) (hd : ops.toList.all (x'K n) = true)
    (h : VCg T ops H (fun E' news => x'2 news E' H fun E'' H'' => VCd P n ops e ⟨E'', H''⟩ Q) (e - s) (ops.toList.drop s) E []) : VCd P n ops s ⟨E, H⟩ Q := by
  have hB := w's hB
  have hse : s ≤ e := z'F hse
  have hef : e ≤ f := z'F hef
  intro x a0 w listed0 hn hs hsz hl0
  have h := VCg.vcf (e - s) s (ops.toList.drop s) E [] rfl h
  obtain ⟨res', hok', hK⟩ := VCf.extract (e - s) s E [] h
  let res : Nat → FRes := fun k => if k < s then .det (match z'U ops k with | some t => E t | none => .any) else res' k
  have hlow : ∀ k, k < s → res k = .det (match z'U ops k with | some t => E t | none => .any) := fun k hk => by simp only [res]; rw [if_pos hk]
  have hhigh : ∀ k, s ≤ k → res k = res' k := fun k hk => by simp only [res]; rw [if_neg (by omega)]
  have hnew : ∀ k nn, res k = .new nn → s ≤ k := fun k nn hk => by
    rcases z'g k s with h' | h'
    · rw [hlow k h'] at hk; cases hk
    · exact h'
  have hskip : ∀ k, k < s → updO E (z'U ops k) (res k).d = E := fun k hk => by
    rw [hlow k hk]
    cases hd' : z'U ops k with
    | none => rfl
    | some t => exact w'Z rfl
  have hcong : ∀ j, y'G ops s E res' j = y'G ops s E res j := fun j => Za9 (fun k hk => (hhigh k hk).symm) j
  have hok : ∀ j, s ≤ j → j < e → ∃ o, ops[j]? = some o ∧ FOk P ops (y'G ops 0 E res j) H o (res j) := fun j h1 h2 => by
    obtain ⟨o, q1, q2⟩ := hok' (j - s) (by omega)
    rw [show s + (j - s) = j by omega] at q1 q2
    refine ⟨o, q1, ?_⟩
    have : y'G ops 0 E res j = y'G ops s E res (j - s) := by
      have := ZbZ (ops := ops) (res := res) (E := E) hskip (j - s)
      rwa [show s + (j - s) = j by omega] at this
    rw [this, ← hcong, hhigh j h1]
    exact q2
  have hdst : ∀ k t, z'U ops k = some t → t < x.n := fun k t hk => hn ▸ Zbx (l := ops.toList) hd k t (by simpa using hk)
  have hnd : ∀ j nn, j < e → res j = .new nn → ∃ t, z'U ops j = some t := by
    intro j nn hj hr
    obtain ⟨o, ho, hf⟩ := hok j (hnew j nn hr) hj
    rw [hr] at hf
    obtain ⟨_, ⟨t, ht⟩, _⟩ := hf
    exact ⟨t, by simp only [z'U, ho, w'J, ht]⟩
  have hL0 : L1 x.L0 res (fun _ => []) listed0 = x.L0 := by
    funext b
    refine propext ⟨?_, .inl⟩
    rintro (h1 | ⟨k, nn, h1, h2, h3⟩)
    · exact h1
    · cases h3
  unfold Zjh at hbar
  rw [z'd] at hbar
  refine ZmP (x := x) (res := res) (E := E) (H := H) (a0 := a0) (ws := w) (f := f) (fl := Zcp ops e) (s := s) (e := e) hB hs (fun c a w ⟨s', h1, _⟩ => hQ c s' h1) hbar.1 hef (fun i h1 h2 k _ h3 h4 => ZjI h4 h1 h2) (fun k h0 h1 h2 => Zm6 hbar.2 h0 h1 h2) hok hdst ?_ _ (fun _ => []) listed0 a0 w ?_ (fun k hk => (hl0 k).2 hk) (fun k hk => by have := (hl0 k).1 hk; omega) ?_
  · intro blk listed a w' hl hF
    rw [y'h] at hK
    have hsameL : Za4 x.L0 res blk e s = L1 x.L0 res blk listed := by
      funext b
      refine propext ⟨?_, ?_⟩
      · rintro (h1 | ⟨k, nn, h1, h2, h3, h4⟩)
        · exact .inl h1
        · exact .inr ⟨k, nn, (hl k).2 h2, h3, h4⟩
      · rintro (h1 | ⟨k, nn, h1, h3, h4⟩)
        · exact .inl h1
        · exact .inr ⟨k, nn, hnew k nn h3, (hl k).1 h1, h3, h4⟩
    have henv : ∀ t, Rel w' (live H (L1 x.L0 res blk listed)) (y'G ops 0 E res e t) (a.tmps.getD t undef) := by
      intro t
      by_cases hex : ∃ k, k < e ∧ z'U ops k = some t
      · obtain ⟨k, hkf, hkt⟩ := hex
        rw [ZaT e hkf hkt (fun j hj hne hd' => hB.uniq k j (by omega) (by omega) hne (by rw [hkt]; simp) (by rw [hd', hkt]))]
        have hsl := hF.slots k t ((hl k).2 hkf) hkt
        cases hr : res k with
        | det d => rw [hr] at hsl; exact hsl
        | skip => rw [hr] at hsl; exact hsl
        | new nn => trivial
      · rw [v'W e (fun k hk hd' => hex ⟨k, hk, hd'⟩), hF.rest t (fun k hk hd' => hex ⟨k, (hl k).1 hk, hd'⟩)]
        exact Rel.mono hF.keeps _ _ (hs.env t)
    have hE : y'G ops 0 E res e = y'G ops s E res' (e - s) := by
      have := ZbZ (ops := ops) (res := res) (E := E) hskip (e - s)
      rw [show s + (e - s) = e by omega] at this
      rw [this, hcong]
    have hN : w'n ops res' s (e - s) = w'n ops res s (e - s) := Zan (e - s) s (fun k hk => (hhigh k hk).symm)
    rw [hN, ← hE] at hK
    obtain ⟨E2, H2, hV, hS⟩ := Zct (f := e) hs { hF with front := fun k hk => (hl k).1 hk } hl hnd (e - s) s _ H (by omega) hK henv (by rw [hsameL]; exact hF.inv) (fun b => by rw [hsameL]) hF.evo
    exact hV x a w' listed hn hS hF.lsize hl
  · unfold unl
    have key : ∀ m, m ≤ ops.size → ((List.range m).filter fun k => !listed0.getD k true).length = m - s := by
      intro m
      induction m with
      | zero => intro _; simp
      | succ m ihm =>
        intro hm
        rw [y'I, z'7, z'e, ihm (by omega)]
        by_cases hmf : m < s
        · have : listed0.getD m true = true := (y'm (by rw [hsz]; omega)).2 ((hl0 m).2 hmf)
          rw [y'C, this]; simp; omega
        · have : listed0.getD m true = false := by
            cases hq : listed0.getD m true with
            | false => rfl
            | true => exact absurd ((hl0 m).1 ((y'm (by rw [hsz]; omega)).1 hq)) hmf
          rw [y'C, this]; simp; omega
    exact key ops.size (z'c _)
  · refine { lsize := hsz, down := fun k o ho hk ed he hb => (hl0 _).2 ?_, front := fun k hk => ?_, slots := fun k t hk hkt => ?_, blks := fun k nn hk hr b hb => (by cases hb), inj := fun k l' nn n' hk hl' hr hr' b hb => (by cases hb),
             rest := fun t _ => rfl, inv := by rw [hL0]; exact hs.inv, evo := Evo.refl _ _, defers := hs.defers, size := hs.size }
    · have := hB.back k o ho ed he hb
      have := (hl0 k).1 hk
      omega
    · have := (hl0 k).1 hk; omega
    · rw [hlow k ((hl0 k).1 hk), hkt, hL0]
      exact hs.env t
section
variable {P : Program} {x : Ctx} {ops : Array Oper} {f st : Nat} {res : Nat → D} {H H1 : Heap} {E : Nat → D} {a0 : Act} {ws : World}
theorem Zdv {W:Nat→Bool} (hW: ∀i,W i=true→y'B ops st i=true) (hB:w'o ops f) (hbl:H1.blocks=H.blocks) (hs0:SRel x ⟨E,H⟩ a0 ws) {Q:Exit→Act→World→Prop} {s e:Nat} (hef:e≤f) (bar: ∀i,e≤i→i<ops.size→ ∀k,s≤k→k<e→y'B ops i k=true)
  (hok: ∀j,s≤j→j<e→ ∃o,ops[j]?=some o∧WOk P W (x'g ops E res j) H H1 o j st (res j)) (hdst: ∀k t,z'U ops k=some t→t<x.n)
  (hfin: ∀listed a w,(∀k,isL listed k↔k<e)→GInv x ops f st res H H1 a0 ws listed a w→wpAny P .any ops Q (ops.size-e) listed a w):
  ∀(fuel:Nat) (listed:Array Bool) (a:Act) (w:World),unl listed ops.size=fuel→(∀k,k<s→isL listed k)→(∀k,isL listed k→k<e)→GInv x ops f st res H H1 a0 ws listed a w→wpAny P .any ops Q fuel listed a w:=by
 have hes:e≤ops.size:=y'b hef hB.le
 intro fuel
 induction fuel with
 |zero=>
  intro listed a w hu hlow hup h
  have all: ∀k,k<ops.size→isL listed k:=fun k hk=>ZaM h.lsize hu hk
  have hl: ∀k,isL listed k↔k<e:=fun k=>⟨hup k,fun hk=>all k (by omega)⟩
  have he:ops.size-e=0:=by
   rcases y'K hes with h'|h'
   ·omega
   ·have:=hup e (all e h');omega
  have:=hfin listed a w hl h
  rwa [he]at this
 |succ fuel ih=>
  intro listed a w hu hlow hup h
  by_cases hall: ∀k,k<e→isL listed k
  ·have hl: ∀k,isL listed k↔k<e:=fun k=>⟨hup k,hall k⟩
   have hcount:ops.size-e=fuel+1:=by
    have key: ∀m,m≤ops.size→((List.range m).filter fun k=> !listed.getD k true).length=m-e:=by
     intro m
     induction m with
     |zero=>intro _;simp
     |succ m ihm=>
      intro hm
      rw[y'I,z'7,z'e,ihm (by omega)]
      by_cases hmf:m<e
      ·have:listed.getD m true=true:=(y'm (by rw[h.lsize];omega)).2 ((hl m).2 hmf)
       rw[y'C,this];simp;omega
      ·have:listed.getD m true=false:=by
        cases hq:listed.getD m true with
        |false=>rfl
        |true=>exact absurd ((hl m).1 ((y'm (by rw[h.lsize];omega)).1 hq)) hmf
       rw[y'C,this];simp;omega
    have:=key ops.size (z'c _)
    unfold unl at hu
    omega
   have:=hfin listed a w hl h
   rwa [hcount]at this
  ·have hex: ∃k,k<e∧ ¬isL listed k:=by
    refine z'C fun hn=>hall fun k hk=>z'C fun hkl=>hn ⟨k,hk,hkl⟩
   have least: ∀m, ∀k,k≤m→k<e→ ¬isL listed k→ ∃k',k'<e∧ ¬isL listed k'∧ ∀l,l<k'→isL listed l:=by
    intro m
    induction m with
    |zero=>intro k hk hkf hkl;exact⟨k,hkf,hkl,fun l hl=>by omega⟩
    |succ m ihm=>
     intro k hk hkf hkl
     by_cases hp: ∀l,l<k→isL listed l
     ·exact⟨k,hkf,hkl,hp⟩
     ·have: ∃l,l<k∧ ¬isL listed l:=z'C fun hn=>hp fun l hl=>z'C fun hll=>hn ⟨l,hl,hll⟩
      obtain⟨l,h1,h2⟩:=this
      exact ihm l (by omega) (by omega) h2
   obtain⟨k0,hk0f,hk0⟩:=hex
   obtain⟨k,hkf,hkl,hkp⟩:=least k0 k0 (z'c _) hk0f hk0
   have hks:k<ops.size:=z'N hkf hes
   have hready:k∈Region.ready .any ops listed:=by
    refine mem_ready.2 ⟨?_,ops[k],by simp[hks],fun ed he hb=>?_⟩
    ·cases hq:listed.getD k true with
     |false=>rfl
     |true=>exact absurd ((y'm (by rw[h.lsize];omega)).1 hq) hkl
    ·have hlt:=hB.back k ops[k] (by simp[hks]) ed he hb
     have:=hkp ed.on hlt
     unfold isL at this
     rw[z'4,this];rfl
   refine⟨fun h0=>by rw[h0]at hready;exact absurd hready y'P,fun i hi=>?_⟩
   obtain⟨h1,h2,o,ho,hr⟩:=y'Q h.lsize hi
   have hie:i<e:=by
    rcases z'g i e with h'|h'
    ·exact h'
    ·exfalso
     have hsk:s≤k:=by
      rcases z'g k s with h''|h''
      ·exact absurd (hlow k h'') hkl
      ·exact h''
     have he:=bar i h' h1 k hsk hkf
     exact hkl (y'U (S:=isL listed) (fun j' ed hj' he'=>by
      obtain⟨oj,ed,q1,q2,q3,rfl⟩:=y'z.1 he'
      exact h.down j' oj q1 hj' ed q2 q3) _ i k (fun ed he'=>by
      obtain⟨oj,ed,q1,q2,q3,rfl⟩:=y'z.1 he'
      rw[ho]at q1;cases q1
      exact hr ed q2 q3) he)
   have hisz:i<listed.size:=by rw[h.lsize];exact h1
   refine wpOp_mono (fun a' w' h'=>ih _ a' w' ?_ (fun l hl=>(x'u hisz).2 (.inr (hlow l hl))) (fun k hk=>?_) h') (h.step hW hB hbl hs0 hdst hi (by omega) (hok i (by
     rcases z'g i s with h''|h''
     ·exact absurd (hlow i h'') h2
     ·exact h'') hie))
   ·have:=Za3 h.lsize h1 h2
    omega
   ·rcases(x'u hisz).1 hk with rfl|hk
    ·exact hie
    ·exact hup k hk
end
theorem VCd.groupXs {P:Program} (T:Tab P) (W:Nat→Bool) {n:Nat} {ops:Array Oper} {E:Nat→D} {H:Heap} {Q:Exit→St→Prop} (H1:Heap) (s st e f:Nat) (hbl:H1.blocks=H.blocks) (hs1:s≤st) (hst:Nat.blt st e=true) (hef:Nat.ble e f=true) (hB:v'o ops f=true) (hbar:Za5 ops s e=true) (hd:ops.toList.all (x'K n)=true)
  (hW: ∀i,W i=true→y'B ops st i=true)
  (h:VCx T W st H H1 (fun E'=>VCd P n ops e ⟨E',H1⟩ Q) (e-s) s (ops.toList.drop s) E):VCd P n ops s ⟨E,H⟩ Q:=by
 have hB:=w's hB
 have hef:e≤f:=z'F hef
 have hst:st<e:=by simpa using hst
 intro x a0 w hn' hn hs hsz hl0
 have hE0: ∀j,j≤s→x'g ops E (fun k=>match z'U ops k with|some t=>E t|none=> .any) j=E:=by
  intro j
  induction j with
  |zero=>intro _;rfl
  |succ j ihj=>
   intro hj
   rw[x'g,ihj (by omega)]
   cases hd':z'U ops j with
   |none=>rfl
   |some t=>exact w'Z rfl
 obtain⟨res,hlo,hok,hK⟩:=VCx.extract (ops:=ops) (E0:=E) (e-s) s (fun k=>match z'U ops k with|some t=>E t|none=> .any) (by rw[hE0 s (z'c _)];exact h)
 rw[show s+(e-s)=e by omega]at hK
 have hdst: ∀k t,z'U ops k=some t→t<x.n:=fun k t hk=>hn▸Zbx (l:=ops.toList) hd k t (by simpa using hk)
 have hno: ¬isL hn' st:=fun hk=>by have:=(hl0 st).1 hk;omega
 have hH0:hof H H1 st hn'=H:=by unfold hof;rw[if_neg hno]
 refine Zdv (x:=x) (res:=res) (E:=E) (H:=H) (H1:=H1) (st:=st) (a0:=a0) (ws:=w) (f:=f) (s:=s) hW hB hbl hs hef (fun i h1 h2 k h0 hk=>Za6 hbar i h1 h2 k h0 hk) (fun j h0 hj=>hok j h0 (by omega)) hdst ?_ _ hn' a0 w ?_ (fun k hk=>(hl0 k).2 hk) (fun k hk=>by have:=(hl0 k).1 hk;omega) ?_
 ·intro listed a w' hl hF
  have hH1:hof H H1 st listed=H1:=by unfold hof;rw[if_pos ((hl st).2 hst)]
  have hlv:live H1 x.L0=live H x.L0:=ZdP hbl _
  refine hK x a w' listed hn ?_ hF.lsize hl
  have hevo:=hF.evo
  have hinv:=hF.inv
  rw[hH1]at hevo hinv
  refine{env:=fun t=>?_,inv:=hinv,evo:=hs.evo.trans hevo,defers:=hF.defers,size:=hF.size}
  simp only
  rw[hlv]
  by_cases hex: ∃k,k<e∧z'U ops k=some t
  ·obtain⟨k,hkf,hkt⟩:=hex
   rw[Zc7 e hkf hkt (fun j hj hne hd'=>hB.uniq k j (by omega) (by omega) hne (by rw[hkt];simp) (by rw[hd',hkt]))]
   exact hF.slots k t ((hl k).2 hkf) hkt
  ·rw[ZbY e (fun k hk hd'=>hex ⟨k,hk,hd'⟩),hF.rest t (fun k hk hd'=>hex ⟨k,(hl k).1 hk,hd'⟩)]
   have hkeep:=hevo.keeps (L0:=x.L0)
   rw[hlv]at hkeep
   exact Rel.mono hkeep _ _ (hs.env t)
 ·unfold unl
  have key: ∀m,m≤ops.size→((List.range m).filter fun k=> !hn'.getD k true).length=m-s:=by
   intro m
   induction m with
   |zero=>intro _;simp
   |succ m ihm=>
    intro hm
    rw[y'I,z'7,z'e,ihm (by omega)]
    by_cases hmf:m<s
    ·have:hn'.getD m true=true:=(y'm (by rw[hsz];omega)).2 ((hl0 m).2 hmf)
     rw[y'C,this];simp;omega
    ·have:hn'.getD m true=false:=by
      cases hq:hn'.getD m true with
      |false=>rfl
      |true=>exact absurd ((hl0 m).1 ((y'm (by rw[hsz];omega)).1 hq)) hmf
     rw[y'C,this];simp;omega
  exact key ops.size (z'c _)
 ·refine{lsize:=hsz,down:=fun k o ho hk ed he hb=>(hl0 _).2 ?_,front:=fun k hk=>?_,slots:=fun k t hk hkt=>?_,rest:=fun t _=>rfl,inv:=by rw[hH0];exact hs.inv,evo:=by rw[hH0];exact Evo.refl _ _,defers:=hs.defers,size:=hs.size}
  ·have h1:=hB.back k o ho ed he hb
   have h2:=(hl0 k).1 hk
   omega
  ·have:=(hl0 k).1 hk;omega
  ·have h2:=(hl0 k).1 hk
   rw[hlo k h2,hkt]
   exact hs.env t
theorem VCd.done {P:Program} {n:Nat} {ops:Array Oper} {S:St} {Q:Exit→St→Prop} (h:Q .normal S):VCd P n ops ops.size S Q:=by
 intro x a w listed hn hs hsz hl
 rw[Nat.sub_self]
 refine⟨List.eq_nil_iff_forall_not_mem.2 fun i hi=>?_,S,h,hs⟩
 obtain⟨h1,h2,_⟩:=y'Q hsz hi
 exact h2 ((hl i).2 h1)
end Go.Vc
