/- A region that draws its order, in which some moves may float: they are carried out first. No condition. -/
import Derived.Test.YthlkpnjjkgmlkaaGreatK2
import Derived.Test.YthlkpnjjkgmlkaaGreatEg
namespace Go.Vc
set_option linter.unusedSimpArgs false
set_option linter.unusedVariables false
open Go
def Zka:Op→Bool
 | .move _| .assign _| .extract .. =>true
 |_=>false
theorem Zoy {P:Program} {o:Oper} {ε:Operand→Value} (hf:Zka o.op=true):(∃v, ∀w,(execOp ε o).run P w= .ok (.value v) w)∨(∀w, ∃s,(execOp ε o).run P w= .halt (.stuck s) w):=by
 unfold Zka at hf
 split at hf
 ·rename_i x ho;exact .inl ⟨ε x,fun w=>by simp only[execOp,ho];rfl⟩
 ·rename_i x ho;exact .inl ⟨ε x,fun w=>by simp only[execOp,ho];rfl⟩
 ·rename_i t i ho
  cases ht:ε t with
  |tuple vs=>
   cases hi:vs[i]? with
   |some v=>exact .inl ⟨v,fun w=>by simp only[execOp,ho,ht,Instr.extract,hi];rfl⟩
   |none=>exact .inr fun w=>⟨_,by simp only[execOp,ho,ht,Instr.extract,hi];rfl⟩
  |_=>exact .inr fun w=>⟨_,by simp only[execOp,ho,ht,Instr.extract];rfl⟩
 ·cases hf
def ZdQ (ops:Array Oper) (k:Nat):Bool:=match ops[k]? with
 |some ok=>(match ok.guard with|none=>Zka ok.op|some _=>false)&&(List.range ops.size).all fun j=>Nat.beq j k||match ops[j]? with
   |some oj=>oj.after.any (fun e=>Region.binds .any e&&e.on == k)||ok.apart ops oj||ok.after.any (fun e=>Region.binds .any e&&e.on == j)
   |none=>true
 |none=>false
section
variable {P : Program} {x : Ctx} {ops : Array Oper} {f : Nat} {res : Nat → FRes} {H : Heap} {E : Nat → D} {a0 : Act} {ws : World}
theorem Znp (hB:w's ops f) (hs0:SRel x ⟨E,H⟩ a0 ws) {Q:Exit→Act→World→Prop} (hQ: ∀c a w, ¬Q (.panic c) a w) (hsel:Region.noSelect ops=true) (hdst: ∀k t,z'T ops k=some t→t<x.n) {blk:Nat→List Nat} {listed:Array Bool} {a:Act} {w:World}
  (h:FInv x ops f res H a0 ws blk listed a w) {k fuel:Nat} (hk:ZdQ ops k=true) (hr:k∈Region.ready .any ops listed) (hkf:k<f) (hok: ∃o,ops[k]?=some o∧FOk P ops (y'R ops 0 E res k) H o (res k))
  (ih: ∀blk' a',FInv x ops f res H a0 ws blk' (listed.setIfInBounds k true) a' w→wpAny P .any ops Q fuel (listed.setIfInBounds k true) a' w):wpAny P .any ops Q (fuel+1) listed a w:=by
 obtain⟨hks,hkl,o,ho,hready⟩:=y'L h.lsize hr
 unfold ZdQ at hk
 rw[ho]at hk
 simp only[z'c]at hk
 obtain⟨hk1,hk2⟩:=hk
 split at hk1
 case h_2=>cases hk1
 rename_i hg
 have hstep:=h.step hB hs0 (Q:=fun _ _ _=>False) hdst hr hkf hok
 unfold wpOp at hstep
 rw[ho]at hstep
 simp only at hstep
 rw[if_pos (by simp[Region.wanted,hg])]at hstep
 have hstep:o.wp P a w (fun a' w'=> ∃blk',FInv x ops f res H a0 ws blk' (listed.setIfInBounds k true) a' w') (fun _ _ _=>False):=by
  rcases hstep with h1|⟨_,_,_,h1⟩
  ·exact h1
  ·exact h1.elim
 unfold Oper.wp at hstep
 rcases Zoy (P:=P) (ε:=a.eval) hk1 with⟨v,hv⟩|hst
 ·rw[hv w]at hstep
  obtain⟨blk',hF⟩:=hstep
  refine wpAny_first (v:=v) ho (Region.noSelect_spec hsel) (fun c a w h'=>absurd h' (hQ c _ _)) fuel listed a w ?_ hr (.inl ⟨by simp[Region.wanted,hg],hv⟩) (ih blk' _ hF)
  intro j oj hj hjk hju hno
  have hjs:j<ops.size:=(Array.getElem?_eq_some_iff.1 hj).1
  have h1:=z'o.1 hk2 j (z'Q.2 hjs)
  simp only[hj,y'2]at h1
  rcases h1 with h1|⟨h1|h1⟩|h1
  ·exact absurd (z'r h1) hjk
  ·obtain⟨e,he,hb⟩:=Array.any_eq_true'.1 h1
   simp only[z'c,beq_iff_eq]at hb
   exact absurd hb.2 (hno e he hb.1)
  ·rename_i h1;exact h1
  ·obtain⟨e,he,hb⟩:=Array.any_eq_true'.1 h1
   simp only[z'c,beq_iff_eq]at hb
   have:=hready e he hb.1
   rw[hb.2]at this
   have h3:=(y'b (by rw[h.lsize];exact hjs)).2 this
   rw[hju]at h3;cases h3
 ·obtain⟨s,hs⟩:=hst w
  rw[hs]at hstep
  exact hstep.elim
theorem ZnH (hB:w's ops f) (hs0:SRel x ⟨E,H⟩ a0 ws) {Q:Exit→Act→World→Prop} (hQ: ∀c a w, ¬Q (.panic c) a w) (hsel:Region.noSelect ops=true) {fl:Nat→Bool} {s e:Nat} (hef:e≤f)
  (bar: ∀i,e≤i→i<ops.size→ ∀k,s≤k→k<e→fl k=false→y'm ops i k=true) (hfl: ∀k,s≤k→k<e→fl k=true→ZdQ ops k=true)
  (hok: ∀j,s≤j→j<e→ ∃o,ops[j]?=some o∧FOk P ops (y'R ops 0 E res j) H o (res j)) (hdst: ∀k t,z'T ops k=some t→t<x.n)
  (hfin: ∀blk listed a w,(∀k,isL listed k↔k<e)→FInv x ops f res H a0 ws blk listed a w→wpAny P .any ops Q (ops.size-e) listed a w):
  ∀(fuel:Nat) (blk:Nat→List Nat) (listed:Array Bool) (a:Act) (w:World),unl listed ops.size=fuel→(∀k,k<s→isL listed k)→(∀k,isL listed k→k<e)→FInv x ops f res H a0 ws blk listed a w→wpAny P .any ops Q fuel listed a w:=by
 have hes:e≤ops.size:=z'3 hef hB.le
 intro fuel
 induction fuel with
 |zero=>
  intro blk listed a w hu hlow hup h
  have all: ∀k,k<ops.size→isL listed k:=fun k hk=>ZaW h.lsize hu hk
  have hl: ∀k,isL listed k↔k<e:=fun k=>⟨hup k,fun hk=>all k (by omega)⟩
  have he:ops.size-e=0:=by
   rcases y'A hes with h'|h'
   ·omega
   ·have:=hup e (all e h');omega
  have:=hfin blk listed a w hl h
  rwa [he]at this
 |succ fuel ih=>
  intro blk listed a w hu hlow hup h
  by_cases hall: ∀k,k<e→isL listed k
  ·have hl: ∀k,isL listed k↔k<e:=fun k=>⟨hup k,hall k⟩
   have hcount:ops.size-e=fuel+1:=by
    have key: ∀m,m≤ops.size→((List.range m).filter fun k=> !listed.getD k true).length=m-e:=by
     intro m
     induction m with
     |zero=>intro _;simp
     |succ m ihm=>
      intro hm
      rw[y'h,z'1,z'h,ihm (by omega)]
      by_cases hmf:m<e
      ·have:listed.getD m true=true:=(y'b (by rw[h.lsize];omega)).2 ((hl m).2 hmf)
       rw[y'r,this];simp;omega
      ·have:listed.getD m true=false:=by
        cases hq:listed.getD m true with
        |false=>rfl
        |true=>exact absurd ((hl m).1 ((y'b (by rw[h.lsize];omega)).1 hq)) hmf
       rw[y'r,this];simp;omega
    have:=key ops.size (z'f _)
    unfold unl at hu
    omega
   have:=hfin blk listed a w hl h
   rwa [hcount]at this
  ·have hex: ∃k,k<e∧ ¬isL listed k:=by
    refine z'z fun hn=>hall fun k hk=>z'z fun hkl=>hn ⟨k,hk,hkl⟩
   have least: ∀m, ∀k,k≤m→k<e→ ¬isL listed k→ ∃k',k'<e∧ ¬isL listed k'∧ ∀l,l<k'→isL listed l:=by
    intro m
    induction m with
    |zero=>intro k hk hkf hkl;exact⟨k,hkf,hkl,fun l hl=>by omega⟩
    |succ m ihm=>
     intro k hk hkf hkl
     by_cases hp: ∀l,l<k→isL listed l
     ·exact⟨k,hkf,hkl,hp⟩
     ·have: ∃l,l<k∧ ¬isL listed l:=z'z fun hn=>hp fun l hl=>z'z fun hll=>hn ⟨l,hl,hll⟩
      obtain⟨l,h1,h2⟩:=this
      exact ihm l (by omega) (by omega) h2
   obtain⟨k0,hk0f,hk0⟩:=hex
   obtain⟨k,hkf,hkl,hkp⟩:=least k0 k0 (z'f _) hk0f hk0
   have hks:k<ops.size:=z'G hkf hes
   have hready:k∈Region.ready .any ops listed:=by
    refine mem_ready.2 ⟨?_,ops[k],by simp[hks],fun ed he hb=>?_⟩
    ·cases hq:listed.getD k true with
     |false=>rfl
     |true=>exact absurd ((y'b (by rw[h.lsize];omega)).1 hq) hkl
    ·have hlt:=hB.back k ops[k] (by simp[hks]) ed he hb
     have:=hkp ed.on hlt
     unfold isL at this
     rw[z'X,this];rfl
   have hsk: ∀k, ¬isL listed k→s≤k:=fun k hn=>by
    rcases z'j k s with h'|h'
    ·exact absurd (hlow k h') hn
    ·exact h'
   by_cases hall2: ∀k,k<e→fl k=false→isL listed k
   ·have hfk:fl k=true:=by
     cases hq:fl k with
     |true=>rfl
     |false=>exact absurd (hall2 k hkf hq) hkl
    have hisz:k<listed.size:=by rw[h.lsize];exact hks
    refine Znp hB hs0 hQ hsel hdst h (hfl k (hsk k hkl) hkf hfk) hready (by omega) (hok k (hsk k hkl) hkf) fun blk' a' hF=>ih blk' _ a' w ?_ (fun l hl=>(x'w hisz).2 (.inr (hlow l hl))) (fun l hl=>?_) hF
    ·have:=Za7 h.lsize hks hkl
     omega
    ·rcases(x'w hisz).1 hl with rfl|hl
     ·exact hkf
     ·exact hup l hl
   ·obtain⟨q,hqe,hqf,hql⟩: ∃q,q<e∧fl q=false∧ ¬isL listed q:=z'z fun hn=>hall2 fun q h1 h2=>z'z fun h3=>hn ⟨q,h1,h2,h3⟩
    refine⟨fun h0=>by rw[h0]at hready;exact absurd hready y'D,fun i hi=>?_⟩
    obtain⟨h1,h2,o,ho,hr⟩:=y'L h.lsize hi
    have hie:i<e:=by
     rcases z'j i e with h'|h'
     ·exact h'
     ·exfalso
      have he:=bar i h' h1 q (hsk q hql) hqe hqf
      exact hql (y'S (S:=isL listed) (fun j' ed hj' he'=>by
       obtain⟨oj,ed,q1,q2,q3,rfl⟩:=y'x.1 he'
       exact h.down j' oj q1 hj' ed q2 q3) _ i q (fun ed he'=>by
       obtain⟨oj,ed,q1,q2,q3,rfl⟩:=y'x.1 he'
       rw[ho]at q1;cases q1
       exact hr ed q2 q3) he)
    have hisz:i<listed.size:=by rw[h.lsize];exact h1
    refine wpOp_mono (fun a' w' ⟨blk',h'⟩=>ih blk' _ a' w' ?_ (fun l hl=>(x'w hisz).2 (.inr (hlow l hl))) (fun k hk=>?_) h') (h.step hB hs0 hdst hi (by omega) (hok i (hsk i h2) hie))
    ·have:=Za7 h.lsize h1 h2
     omega
    ·rcases(x'w hisz).1 hk with rfl|hk
     ·exact hie
     ·exact hup k hk
end
def ZcA (ops:Array Oper) (e k:Nat):Bool:=(List.range ops.size).any fun i=>Nat.ble e i&& !y'm ops i k
mutual
def Zic:G→G→Bool
 | .int k n,.int k' n'=>Nat.beq (kTag k) (kTag k')&&decide (n=n')
 | .bool a,.bool b=>match a,b with|true,true=>true|false,false=>true|_,_=>false
 | .str a,.str b=>decide (a=b)
 | .ptr b o,.ptr b' o'=>Nat.beq b b'&&Nat.beq o o'
 | .sl f e r,.sl f' e' r'=>(match f,f' with|true,true=>true|false,false=>true|_,_=>false)&&(Nat.beq e e'&&Znw r r')
 | .pt l,.pt l'=>Zfa l l'
 | .own b n,.own b' n'=>Nat.beq b b'&&Nat.beq n n'
 | .nils,.nils=>true
 | .off b o n c,.off b' o' n' c'=>(Nat.beq b b'&&Nat.beq o o')&&(Nat.beq n n'&&Nat.beq c c')
 | .agg l,.agg l'=>Zfa l l'
 | .tup l,.tup l'=>Zfa l l'
 | .ifc t g,.ifc t' g'=>Nat.beq t t'&&Zic g g'
 | .fn f l,.fn f' l'=>Nat.beq f f'&&Zfa l l'
 | .mp b,.mp b'=>Nat.beq b b'
 |_,_=>false
def Zfa:List G→List G→Bool
 |[],[]=>true
 |a::r,b::s=>Zic a b&&Zfa r s
 |_,_=>false
def Znw:List (List G)→List (List G)→Bool
 |[],[]=>true
 |a::r,b::s=>Zfa a b&&Znw r s
 |_,_=>false
end
mutual
theorem ZfS: ∀{a b:G},Zic a b=true→a=b:=by
 intro a b h
 cases a<;>cases b<;>simp only[Zic,z'c,decide_eq_true_eq,y'Z]at h
 case int.int=>rw[ZeF (beq_iff_eq.2 (z'r h.1)),h.2]
 case bool.bool a b=>cases a<;>cases b<;>simp_all
 case str.str=>rw[h]
 case ptr.ptr=>rw[z'r h.1,z'r h.2]
 case sl.sl f e r f' e' r'=>
  have h2:=Zml h.2.2
  have h1:=z'r h.2.1
  cases f<;>cases f'<;>simp_all
 case pt.pt=>rw[ZcB h]
 case own.own=>rw[z'r h.1,z'r h.2]
 case nils.nils=>rfl
 case off.off=>rw[z'r h.1.1,z'r h.1.2,z'r h.2.1,z'r h.2.2]
 case agg.agg=>rw[ZcB h]
 case tup.tup=>rw[ZcB h]
 case ifc.ifc=>rw[z'r h.1,ZfS h.2]
 case fn.fn=>rw[z'r h.1,ZcB h.2]
 case mp.mp=>rw[z'r h]
theorem ZcB: ∀{a b:List G},Zfa a b=true→a=b:=by
 intro a b h
 cases a<;>cases b<;>simp only[Zfa,z'c,y'Z]at h
 ·rfl
 ·rw[ZfS h.1,ZcB h.2]
theorem Zml: ∀{a b:List (List G)},Znw a b=true→a=b:=by
 intro a b h
 cases a<;>cases b<;>simp only[Znw,z'c,y'Z]at h
 ·rfl
 ·rw[ZcB h.1,Zml h.2]
end
def ZjH (nx:Nat):Vh→Vh→Bool
 |[],[]=>true
 |p::V,q::W=>(Nat.beq p.1 q.1&&ltI nx (G.idl q.2.l []))&&ZjH nx V W
 |_,_=>false
theorem Zlx {lo:Nat→Prop} {nx nx':Nat}: ∀{V W:Vh},ZjH nx V W=true→VOk lo nx V→VOk lo nx' W→VOk lo nx W∧V.map (·.1)=W.map (·.1)∧ ∀σ τ:Nm,(∀i,i<nx→σ i=τ i)→Vn σ W=Vn τ W
 |[],[],_,_,_=>⟨fun b c h=>(by cases h),rfl,fun _ _ _=>rfl⟩
 |[],q::W,h,_,_=>by cases h
 |p::V,[],h,_,_=>by cases h
 |p::V,q::W,h,hV,hW=>by
  simp only[ZjH,z'c]at h
  obtain⟨⟨h1,h2⟩,h3⟩:=h
  have h1:=z'r h1
  obtain⟨k1,k2,k3⟩:=Zlx h3 (fun b c hm=>hV b c (z'k _ hm)) (fun b c hm=>hW b c (z'k _ hm))
  obtain⟨p1,p2,_⟩:=hV p.1 p.2 (z'n ..)
  obtain⟨q1,q2,q3⟩:=hW q.1 q.2 (z'n ..)
  have hq:BelL lo nx q.2.l:=fun g hg=>(q3 g hg).lt (by
   unfold ltG ltI
   rw[z'o]
   exact fun i hi=>Nat.blt_eq.mpr (ZkU h2 i (Zsl hg i hi)))
  have p2':q.1<nx:=h1▸p2
  refine⟨fun b c hm=>?_,by rw[z'm,z'm,k2,h1],fun σ τ hag=>?_⟩
  ·rcases z't.1 hm with hm|hm
   ·cases hm;exact⟨q1,p2',hq⟩
   ·exact k1 b c hm
  ·rw[show q::W=(q.1,q.2)::W from rfl,ZbC,ZbC,k3 σ τ hag,hag q.1 p2']
   congr 2
   have e1:=Ztv h2 hag
   have e2:=hag q.1 p2'
   revert e1
   cases q.2 with
   |fix ty n l=>intro e1;simp only[VB.c];rw[show l.map (G.d σ)=l.map (G.d τ) from e1]
   |gro e esz l=>intro e1;simp only[VB.c];rw[show l.map (G.d σ)=l.map (G.d τ) from e1,e2]
   |mp es c=>
    intro e1
    have e:es.map (ZaO σ)=es.map (ZaO τ):=y'k fun x hx=>by
     have h1:G.d σ x.2.1=G.d τ x.2.1:=List.map_inj_left.1 e1 x.2.1 (z'p.2 ⟨x,hx,rfl⟩)
     simp only[ZaO,h1]
    simp only[VB.c,v'n,e]
   |it s p=>intro _;rfl
theorem Zk0 {V W:Vh} (h:V.map (·.1)=W.map (·.1)) {σ:Nm}:V.map (fun p=>(σ p.1).1)=W.map (fun p=>(σ p.1).1):=by
 have e: ∀V:Vh,V.map (fun p=>(σ p.1).1)=(V.map (·.1)).map fun b=>(σ b).1:=fun V=>by rw[List.map_map];rfl
 rw[e V,e W,h]
noncomputable def Zhw {P:Program} (T:Tab P) (ow:Nat→G→Bool) (w:Gw) (n:Nat) (V V1:Vh) (nx:Nat):Nat→List Oper→Env→Option Env
 |0,_,env=>some env
 |_+1,[],_=>none
 |m+1,o::l,env=>match o.guard with
  |some _=>none
  |none=>match gFr T ow w env V nx o.op,gFr T ow w env V1 nx o.op with
   |some (true,g,_,_),some (true,g',_,_)=>match Zic g' g with
    |true=>ZdB n o.dst g env fun env=>Zhw T ow w n V V1 nx m l env
    |false=>none
   |_,_=>none
noncomputable def ZjD {P:Program} (T:Tab P) (ow:Nat→G→Bool) (w:Gw) (n:Nat) (ops:Array Oper) (V:Vh) (nx:Nat):Nat→Nat→List Oper→Env→Option (Nat×Env×Vh)
 |0,_,_,_=>none
 |_+1,_,[],_=>none
 |m+1,i,o::l,env=>match o.guard with
  |some _=>none
  |none=>match gFr T ow w env V nx o.op with
   |some (true,g,_,_)=>ZdB n o.dst g env fun env'=>match ZjD T ow w n ops V nx m (i+1) l env' with
    |some (st,envF,V1)=>match y'm ops st i with
     |true=>some (st,envF,V1)
     |false=>match gFr T ow w env V1 nx o.op with
      |some (true,g',_,_)=>match Zic g' g with|true=>some (st,envF,V1)|false=>none
      |_=>none
    |none=>none
   |some (false,_,_,_)=>none
   |none=>match Zky T ow w env V nx o.op with
    |some (g,V1,_)=>match ZjH nx V V1&&ltG nx g with
     |true=>ZdB n o.dst g env fun env=>match Zhw T ow w n V V1 nx m l env with|some envF=>some (i,envF,V1)|none=>none
     |false=>none
    |none=>none
theorem Zkl {P:Program} {ow:Nat→G→Bool} (T:Tab P) (hN:NamesOk P) {w:Gw} (hw:v'm P w) {lo:Nat→Prop} {n nx st:Nat} {W:Nat→Bool} {V V1:Vh} (hV:VOk lo nx V) (hV1:VOk lo nx V1) (hnm:V.map (·.1)=V1.map (·.1)): ∀(m i:Nat) (l:List Oper) (env envF:Env),
  Zhw T ow w n V V1 nx m l env=some envF→st<i→ELen n env→BelE lo nx env→(ELen n envF∧BelE lo nx envF)∧ ∀(σ:Nm) (K:(Nat→D)→Prop),(Vn σ V).blocks.Nodup→K (cE σ envF)→VCx T W st (Vn σ V) (Vn σ V1) K m i l (cE σ env)
 |0,i,l,env,envF,h,_,hl,he=>by
  simp only[Zhw,z'D]at h
  subst h
  exact⟨⟨hl,he⟩,fun σ K _ hk=>by unfold VCx;exact hk⟩
 |m+1,i,[],env,envF,h,_,_,_=>by cases h
 |m+1,i,o::l,env,envF,h,hi,hl,he=>by
  unfold Zhw at h
  split at h
  ·cases h
  rename_i hg
  split at h
  ·rename_i g a1 a2 g' a3 a4 h1 h2
   split at h
   ·rename_i hq
    have hq:=ZfS hq
    subst hq
    obtain⟨b1,b2⟩:=ZdV T hN hw (z'f _) hV he h1
    obtain⟨c1,c2⟩:=ZdV T hN hw (z'f _) hV1 he h2
    replace h:=Za5 h
    obtain⟨hd,h⟩:=h
    obtain⟨r1,r2⟩:=Zkl (st:=st) (W:=W) T hN hw hV hV1 hnm m (i+1) l _ envF h (by omega) (Zad hl) (Zac he b1)
    refine⟨r1,fun σ K hn hk=>⟨g'.d σ,⟨hg,fun _=>⟨b2 σ hn,.inr (c2 σ ?_)⟩,fun e=>by omega⟩,?_⟩⟩
    ·rw[v't]at hn⊢
     rw[←Zk0 hnm];exact hn
    ·have:=r2 σ K hn hk
     rw[Zby hd hl]at this
     exact this
   ·cases h
  ·cases h
theorem Zkm {P:Program} {ow:Nat→G→Bool} (T:Tab P) (hN:NamesOk P) {w:Gw} (hw:v'm P w) {lo:Nat→Prop} {n nx:Nat} {ops:Array Oper} {V:Vh} (hV:VOk lo nx V) (hup: ∀i,nx≤i→lo i): ∀(m i:Nat) (l:List Oper) (env:Env) (st:Nat) (envF:Env) (V1:Vh),
  ZjD T ow w n ops V nx m i l env=some (st,envF,V1)→ELen n env→BelE lo nx env→(((i≤st∧st<i+m)∧VOk lo nx V1∧V.map (·.1)=V1.map (·.1))∧ELen n envF∧BelE lo nx envF)∧
   ∀(σ:Nm) (K:(Nat→D)→Prop),(Vn σ V).blocks.Nodup→K (cE σ envF)→VCx T (fun k=>y'm ops st k) st (Vn σ V) (Vn σ V1) K m i l (cE σ env)
 |0,i,l,env,st,envF,V1,h,_,_=>by cases h
 |m+1,i,[],env,st,envF,V1,h,_,_=>by cases h
 |m+1,i,o::l,env,st,envF,V1,h,hl,he=>by
  unfold ZjD at h
  split at h
  ·cases h
  rename_i hg
  have nod: ∀{W:Vh} {σ:Nm},V.map (·.1)=W.map (·.1)→(Vn σ V).blocks.Nodup→(Vn σ W).blocks.Nodup:=fun{W σ} hnm hn=>by
   rw[v't]at hn⊢
   rw[←Zk0 hnm];exact hn
  split at h
  ·rename_i g a1 a2 h1
   obtain⟨b1,b2⟩:=ZdV T hN hw (z'f _) hV he h1
   replace h:=Za5 h
   obtain⟨hd,h⟩:=h
   split at h
   ·rename_i st' envF' V1' hrec
    obtain⟨⟨⟨r1,r2,r3⟩,r4,r5⟩,r6⟩:=Zkm T hN hw hV hup m (i+1) l _ st' envF' V1' hrec (Zad hl) (Zac he b1)
    split at h
    ·rename_i hw'
     cases h
     refine⟨⟨⟨⟨by omega,by omega⟩,r2,r3⟩,r4,r5⟩,fun σ K hn hk=>⟨g.d σ,⟨hg,fun _=>⟨b2 σ hn,.inl hw'⟩,fun e=>by omega⟩,?_⟩⟩
     have:=r6 σ K hn hk
     rw[Zby hd hl]at this
     exact this
    ·split at h
     ·rename_i g' a3 a4 h2
      split at h
      ·rename_i hq
       have hq:=ZfS hq
       subst hq
       cases h
       obtain⟨c1,c2⟩:=ZdV T hN hw (z'f _) r2 he h2
       refine⟨⟨⟨⟨by omega,by omega⟩,r2,r3⟩,r4,r5⟩,fun σ K hn hk=>⟨g'.d σ,⟨hg,fun _=>⟨b2 σ hn,.inr (c2 σ (nod r3 hn))⟩,fun e=>by omega⟩,?_⟩⟩
       have:=r6 σ K hn hk
       rw[Zby hd hl]at this
       exact this
      ·cases h
     ·cases h
   ·cases h
  ·cases h
  ·split at h
   ·rename_i g V1' nx1 hop
    split at h
    ·rename_i hb
     rw[z'c]at hb
     obtain⟨⟨m1,m2,m3⟩,m4⟩:=Zmr T hN hw hup hV he hop
     obtain⟨s1,s2,s3⟩:=Zlx hb.1 hV m2
     have hbg:=m3.lt hb.2
     replace h:=Za5 h
     obtain⟨hd,h⟩:=h
     split at h
     ·rename_i envF' hA
      cases h
      obtain⟨r1,r2⟩:=Zkl (st:=i) (W:=fun k=>y'm ops i k) T hN hw hV s1 s2 m (i+1) l _ _ hA (by omega) (Zad hl) (Zac he hbg)
      refine⟨⟨⟨⟨z'f _,by omega⟩,s1,s2⟩,r1⟩,fun σ K hn hk=>⟨g.d σ,⟨hg,fun e=>absurd rfl e,fun _=>?_⟩,?_⟩⟩
      ·refine Op1.opS (m4 σ _ hn fun σ' hag=>⟨.inr (Zo2 hb.2 hag),s3 σ' σ hag⟩)
      ·have:=r2 σ K hn hk
       rw[Zby hd hl]at this
       exact this
     ·cases h
    ·cases h
   ·cases h
end Go.Vc
