/- Plain law: how much two configurations differ. No condition. -/
import Derived.Test.YthlkpnjjkgmlkaaGreatXe
import Derived.Test.YthlkpnjjkgmlkaaGreatDb
import Derived.Test.YthlkpnjjkgmlkaaGreatZr
import Derived.Test.YthlkpnjjkgmlkaaGreatYla
import Derived.Test.YthlkpnjjkgmlkaaGreatCc
import Derived.Test.YthlkpnjjkgmlkaaGreatRi
import Derived.Test.YthlkpnjjkgmlkaaGreatCj
import Derived.Test.YthlkpnjjkgmlkaaGreatSa
import Derived.Test.YthlkpnjjkgmlkaaGreatCo
import Derived.Test.YthlkpnjjkgmlkaaGreatYr
import Derived.Test.YthlkpnjjkgmlkaaGreatRows
import Derived.Test.YthlkpnjjkgmlkaaGreatK1
import Derived.ProofKit
import Derived.OpenShut
import Derived.Lib.SmallJoins
import Derived.Test.YthlkpnjjkgmlkaaGreatRg
namespace Go.Proofs.YthlkpnjjkgmlkaaGreat
set_option maxHeartbeats 16000000
set_option linter.unusedSimpArgs false
set_option linter.unusedVariables false
set_option maxRecDepth 20000
open Go Go.Proofs Go.Vc
section
variable {α : Type} [DecidableEq α]
end
theorem ZkO {e eb:Nat} {ea full:Bool} {ez:List Value} {l:List En} {k:IntKind} {n:Int} {K:D→Prop}:
  cIndexAddr (.slice e 2 eb ea ez) (.sl full 2 (eRs l)) (.is (.int k n)) K=((0≤n∧n<l.length)∧K (.pt (eR (l.getD n.toNat (0,0))))):=ZcW eR (0,0)
theorem Ziu {e eb:Nat} {ea full:Bool} {ez:List Value} {l:List (List Int)} {k:IntKind} {n:Int} {K:D→Prop}:
  cIndexAddr (.slice e 1 eb ea ez) (.sl full 1 (x'X l)) (.is (.int k n)) K=((0≤n∧n<l.length)∧K (.pt [y'c (l.getD n.toNat [])])):=ZcW (fun r=>[y'c r]) []
theorem Zmw {e eb:Nat} {ea full:Bool} {ez:List Value} {l:List (List En)} {k:IntKind} {n:Int} {K:D→Prop}:
  cIndexAddr (.slice e 1 eb ea ez) (.sl full 1 (x'6 l)) (.is (.int k n)) K=((0≤n∧n<l.length)∧K (.pt [buf (l.getD n.toNat [])])):=ZcW (fun r=>[buf r]) []
attribute [local irreducible] x'c VCg VCw VCx
theorem IW.path {n:Nat} {F:List Wy} (h:IW n F): ∀(k j:Nat) (e:Wy),j≤k→F[j]?=some e→e.2.2.2.length≤j
 |k,j,e,hk,he=>by
  rcases h.up j e he with h1|⟨j',e',h1,h2,h3,h4⟩
  ·rw[h1.2];exact y'f _
  ·cases k with
   |zero=>omega
   |succ k=>
    have:=IW.path h k j' e' (by omega) h2
    rw[h4,z'h,z'u,z'2]
    omega
open Go Go.Proofs Go.Vc Go.ChangeShapes Go.WideShapes Go.ChangeAt Go.RowKit Go.Joins
theorem ZuG:ownKnob Tryz.prog.godebug=none:=by kernel_rfl
theorem Zon {P:Program} {f:FuncId} {args:List D} (h:Pure P f args (bD true)) (w:World) (vs:List Value) (hr:RelL w (live [] (fun _=>False)) args vs):
  Calls P f vs.toArray w fun e w'=>e= .returned (.bool true)∧Below w.heap.size w w':=by
 refine(h.2 w (fun _=>False) vs ⟨fun b c hm=>(by cases hm),x'Y,fun b hb=>(by cases hb),fun b hb=>hb.elim⟩ hr).mono ?_
 rintro e w' ⟨v,he,d,H',⟨rfl,rfl⟩,h1,h2,h3⟩
 have hv:v= .bool true:=h1
 subst hv
 exact⟨he,h3.os,h3.tape,h3.output,h3.size,fun k hk=>h3.block k hk (by simp[Heap.blocks])⟩
theorem Zlr {α:Type} (f:α→List D) (Q:List D→Prop) (h: ∀r,Q r→ ∃x,r=f x): ∀(rows:List (List D)),(∀r,r∈rows→Q r)→ ∃b:List α,rows=b.map f
 |[],_=>⟨[],rfl⟩
 |r::rs,hr=>by
  obtain⟨b,rfl⟩:=Zlr f Q h rs fun r hr'=>hr r (z'k _ hr')
  obtain⟨x,rfl⟩:=h r (hr r (z'n ..))
  exact⟨x::b,rfl⟩
theorem Zc2 {α:Type} {l:List (List α)} {n:Nat} (h: ∀r,r∈l→r.length≤n) (k:Nat):(l.getD k []).length≤n:=by
 rcases z'j k l.length with h1|h1
 ·exact h _ (w'R h1)
 ·rw[z'd,z'L h1];exact y'f _
def inN (n:Int):Prop:=0≤n∧n≤9999
theorem Zf9 {n:Int}:okN n=true↔inN n:=by simp[okN,inN]
theorem v'x {α:Type} {l:List α} {f:α→Bool} {d:α}:l.all f=true↔ ∀i,i<l.length→f (l.getD i d)=true:=by
 rw[z'o]
 constructor
 ·exact fun h i hi=>h _ (w'R hi)
 ·intro h x hx
  obtain⟨i,hi,rfl⟩:=List.getElem_of_mem hx
  have:=h i hi
  rwa [Zsa (z'b hi)]at this
structure RP (c:Cf):Prop where
 n:c.pc.length≤10
 r:c.regs.length=c.pc.length
 b:c.bufs.length=c.pc.length
 pc:c.pc.all okN=true
 mem:c.mem.all okN=true
 regs: ∀t,t<c.regs.length→(c.regs.getD t []).all okN=true
 bufs: ∀t,t<c.bufs.length→ ∀i,i<(c.bufs.getD t []).length→Ze5 ((c.bufs.getD t []).getD i (0,0))=true
theorem ZeM {c:Cf}:ZaE c=true↔RP c:=by
 simp only[ZaE,z'c,decide_eq_true_eq]
 constructor
 ·rintro⟨⟨h1,h2,h3⟩,⟨h4,h5⟩,h6,h7⟩
  refine⟨h1,h2,h3,h4,h5,(v'x (d:=[])).1 h6,fun t ht i hi=>?_⟩
  exact(v'x (d:=(0,0))).1 ((v'x (d:=[])).1 h7 t ht) i hi
 ·rintro⟨h1,h2,h3,h4,h5,h6,h7⟩
  exact⟨⟨h1,h2,h3⟩,⟨h4,h5⟩,(v'x (d:=[])).2 h6,(v'x (d:=[])).2 fun t ht=>(v'x (d:=(0,0))).2 (h7 t ht)⟩
theorem Zbv {c:Cf} (h: ¬RP c):ZaE c=false:=by rw[←Bool.not_eq_true];exact fun e=>h (ZeM.1 e)
theorem Zof {l:List Int} {k:Nat} (hk:k<l.length) (h: ¬inN (l.getD k 0)):l.all okN=false:=by
 rw[←Bool.not_eq_true]
 exact fun e=>h (Zf9.1 (v'x.1 e k hk))
theorem Zhc (l:List Int) (hl:l.length≤1000000):Pure Tryz.prog 222 [y'c l] (bD (l.all okN)):=by
 refine Fun.of T [.tmp 2] Tryz.func222 rfl Tryz.ntmps222 Tryz.results222 rfl (by kernel_rfl) ?_
 repeat' first|refine vs T rfl fun K hK=>?_;(try simp (disch:=omega) only[go_sem,Nat.reduceBEq,z'I]);(refine hK _ _ ?_;clear hK K)|refine st rfl ?_|refine nl ?_
 refine VC.loop {k:Nat//k≤l.length∧ ∀i,i<k→inN (l.getD i 0)} (fun p=>⟨y'd [(5,y'c l),(6,iD (l.length:Nat)),(7,iD (p.1:Nat))],[]⟩) (fun p=>l.length-p.1) ⟨0,by omega,fun i hi=>by omega⟩ ?_ ?_
 ·refine z'S rfl ?_
  simp[sub,upd]
 rintro⟨k,hk,hs⟩
 dsimp only at hk hs⊢
 repeat' first|refine vs T rfl fun K hK=>?_;(try simp (disch:=omega) only[go_sem,Nat.reduceBEq,Zf2,w64,z'q]);(first|refine hK _ _ ?_;clear hK K|refine⟨?_,hK _ _ ?_⟩<;>clear hK K;focus(try omega))|refine st rfl ?_|refine sc rfl ?_|refine nl ?_|refine gs rfl rfl ?_|refine z'A T (z'a _) ?_;(try simp only[upd,Nat.reduceBEq,cond_true,cond_false,and_true])|with_reducible refine z'B (fun hc=>?_) (fun hc=>?_)<;>(try simp only[decide_eq_true_eq,decide_eq_false_iff_not,gt_iff_lt,z'F]at hc)
 any_goals(refine congrArg bD (Zof (k:=k) (by omega) fun h=>?_).symm;unfold inN at h;omega)
 ·refine⟨⟨k+1,by omega,fun i hi=>?_⟩,z'S rfl ?_,by dsimp only;omega⟩
  ·rcases z'j i k with h|h
   ·exact hs i h
   ·obtain rfl:i=k:=by omega
    unfold inN;omega
  ·simp[sub,upd]
 ·exact congrArg bD (v'x.2 fun i hi=>Zf9.2 (hs i (by omega))).symm
theorem ZnT (c:Cf) (hO:OkC c):Pure Tryz.prog 148 [.agg (cfC c)] (bD (ZaE c)):=by
 have g1:=hO.pc
 have g2:=hO.mem
 have g3:=hO.regs
 have g4:=hO.bufs
 have c1:=Zhc c.pc (by omega)
 have c2:=Zhc c.mem (by omega)
 refine Fun.of T [.tmp 2] Tryz.func148 rfl Tryz.ntmps148 Tryz.results148 rfl (by kernel_rfl) ?_
 cases h1:c.pc.all okN with
 |false=>
  rw[h1]at c1
  have hR:ZaE c=false:=Zbv fun h=>by rw[h.pc]at h1;cases h1
  rw[hR]
  repeat' first|refine vb (t:=69) rfl rfl rfl rfl ?_|refine vs T rfl fun K hK=>?_;(try simp (disch:=omega) only[go_sem,Nat.reduceBEq,z'I,y'4,y'u,z'O]);(first|refine hK _ _ ?_;clear hK K|refine Op1.callp rfl rfl (c1) rfl ?_;refine hK _ _ ?_;clear hK K)|refine st rfl ?_|refine sc rfl ?_|refine nl ?_|refine gs rfl rfl ?_|exact z'A T (z'a _) ⟨rfl,rfl⟩|with_reducible refine z'B (fun hc=>?_) (fun hc=>?_)<;>(try simp only[decide_eq_true_eq,decide_eq_false_iff_not,bne_iff_ne,bne_eq_false_iff_eq,ne_eq,gt_iff_lt,z'F]at hc)
 |true=>
 cases h2:c.mem.all okN with
 |false=>
  rw[h1]at c1
  rw[h2]at c2
  have hR:ZaE c=false:=Zbv fun h=>by rw[h.mem]at h2;cases h2
  rw[hR]
  repeat' first|refine vb (t:=69) rfl rfl rfl rfl ?_|refine vs T rfl fun K hK=>?_;(try simp (disch:=omega) only[go_sem,Nat.reduceBEq,z'I,y'4,y'u,z'O,z'E]);(first|refine hK _ _ ?_;clear hK K|refine Op1.callp rfl rfl (c1) rfl ?_;refine hK _ _ ?_;clear hK K|refine Op1.callp rfl rfl (c2) rfl ?_;refine hK _ _ ?_;clear hK K)|refine st rfl ?_|refine sc rfl ?_|refine nl ?_|refine gs rfl rfl ?_|exact z'A T (z'a _) ⟨rfl,rfl⟩|with_reducible refine z'B (fun hc=>?_) (fun hc=>?_)<;>(try simp only[decide_eq_true_eq,decide_eq_false_iff_not,bne_iff_ne,bne_eq_false_iff_eq,ne_eq,gt_iff_lt,z'F]at hc)
 |true=>
 rw[h1]at c1
 rw[h2]at c2
 repeat' first|refine vb (t:=69) rfl rfl rfl rfl ?_|refine vs T rfl fun K hK=>?_;(try simp (disch:=omega) only[go_sem,Nat.reduceBEq,z'I,y'4,y'u,z'E]);(first|refine hK _ _ ?_;clear hK K|refine Op1.callp rfl rfl (c1) rfl ?_;refine hK _ _ ?_;clear hK K|refine Op1.callp rfl rfl (c2) rfl ?_;refine hK _ _ ?_;clear hK K)|refine st rfl ?_|refine sc rfl ?_|refine nl ?_|refine gs rfl rfl ?_|refine z'A T (z'a _) ?_;(try simp only[upd,Nat.reduceBEq,cond_true,cond_false,and_true])|with_reducible refine z'B (fun hc=>?_) (fun hc=>?_)<;>(try simp only[decide_eq_true_eq,decide_eq_false_iff_not,bne_iff_ne,bne_eq_false_iff_eq,ne_eq,gt_iff_lt,z'F]at hc)
 any_goals(refine congrArg bD (Zbv fun h=>?_).symm;obtain⟨a1,a2,a3,a4,a5,a6,a7⟩:=h;omega)
 clear c1 c2
 refine VC.loop {k:Nat//k≤c.pc.length∧(∀t,t<k→(c.regs.getD t []).all okN=true)∧(∀t,t<k→ ∀i,i<(c.bufs.getD t []).length→Ze5 ((c.bufs.getD t []).getD i (0,0))=true)} (fun p=>⟨y'd [(1,.pt (cfC c)),(42,iD (c.pc.length:Nat)),(43,iD (p.1:Nat))],[]⟩) (fun p=>c.pc.length-p.1) ⟨0,by omega,fun i hi=>by omega,fun i hi=>by omega⟩ ?_ ?_
 ·refine z'S rfl ?_
  simp[sub,upd]
 rintro⟨k,hk,hs,hb⟩
 dsimp only at hk hs hb⊢
 have g5:=Zc2 hO.row k
 have g6:=Zc2 hO.buf k
 have c3:=Zhc (c.regs.getD k []) (by omega)
 rcases z'j k c.pc.length with hlt|hge
 case inr=>
  obtain rfl:k=c.pc.length:=by omega
  repeat' first|refine vs T rfl fun K hK=>?_;(try simp (disch:=omega) only[go_sem,Nat.reduceBEq]);(refine hK _ _ ?_;clear hK K)|refine st rfl ?_|refine sc rfl ?_|refine nl ?_|refine z'A T (z'a _) ?_;(try simp only[upd,Nat.reduceBEq,cond_true,cond_false,and_true])|with_reducible refine z'B (fun hc=>?_) (fun hc=>?_)<;>(try simp only[decide_eq_true_eq,decide_eq_false_iff_not,z'F]at hc)<;>(try(exfalso;omega))
  exact congrArg bD (ZeM.2 ⟨by omega,by omega,by omega,h1,h2,fun t ht=>hs t (by omega),fun t ht=>hb t (by omega)⟩).symm
 cases h3:(c.regs.getD k []).all okN with
 |false=>
  rw[h3]at c3
  have hR:ZaE c=false:=Zbv fun h=>by rw[h.regs k (by have:=h.r;omega)]at h3;cases h3
  rw[hR]
  repeat' first|refine vs T rfl fun K hK=>?_;(try simp (disch:=omega) only[go_sem,Nat.reduceBEq,Ziu,z'O,z'q]);(first|refine hK _ _ ?_;clear hK K|refine⟨?_,hK _ _ ?_⟩<;>clear hK K;focus(try omega)|refine Op1.callp rfl rfl (c3) rfl ?_;refine hK _ _ ?_;clear hK K)|refine st rfl ?_|refine sc rfl ?_|refine nl ?_|exact z'A T (z'a _) ⟨rfl,rfl⟩|with_reducible refine z'B (fun hc=>?_) (fun hc=>?_)<;>(try simp only[decide_eq_true_eq,decide_eq_false_iff_not,z'F]at hc)<;>(try(exfalso;omega))
 |true=>
 rw[h3]at c3
 repeat' first|refine vs T rfl fun K hK=>?_;(try simp (disch:=omega) only[go_sem,Nat.reduceBEq,Ziu,Zmw,z'7,z'E,z'q]);(first|refine hK _ _ ?_;clear hK K|refine⟨?_,hK _ _ ?_⟩<;>clear hK K;focus(try omega)|refine Op1.callp rfl rfl (c3) rfl ?_;refine hK _ _ ?_;clear hK K)|refine st rfl ?_|refine sc rfl ?_|refine nl ?_|with_reducible refine z'B (fun hc=>?_) (fun hc=>?_)<;>(try simp only[decide_eq_true_eq,decide_eq_false_iff_not,z'F]at hc)<;>(try(exfalso;omega))
 clear c3
 refine VC.loop {j:Nat//j≤(c.bufs.getD k []).length∧ ∀i,i<j→Ze5 ((c.bufs.getD k []).getD i (0,0))=true} (fun p=>⟨y'd [(1,.pt (cfC c)),(42,iD (c.pc.length:Nat)),(43,iD (k:Nat)),(57,buf (c.bufs.getD k [])),(58,iD ((c.bufs.getD k []).length:Nat)),(59,iD (p.1:Nat))],[]⟩) (fun p=>(c.bufs.getD k []).length-p.1) ⟨0,by omega,fun i hi=>by omega⟩ ?_ ?_
 ·refine z'S rfl ?_
  simp[sub,upd, -List.getD_eq_getElem?_getD]
 rintro⟨j,hj,he⟩
 dsimp only at hj he⊢
 rcases z'j j (c.bufs.getD k []).length with hjt|hge
 case inr=>
  obtain rfl:j=(c.bufs.getD k []).length:=by omega
  repeat' first|refine vs T rfl fun K hK=>?_;(try simp (disch:=omega) only[go_sem,Nat.reduceBEq,w64]);(refine hK _ _ ?_;clear hK K)|refine st rfl ?_|refine sc rfl ?_|refine nl ?_|with_reducible refine z'B (fun hc=>?_) (fun hc=>?_)<;>(try simp only[decide_eq_true_eq,decide_eq_false_iff_not,z'F]at hc)<;>(try(exfalso;omega))
  refine⟨⟨k+1,by omega,fun t ht=>?_,fun t ht=>?_⟩,z'S rfl ?_,by dsimp only;omega⟩
  ·rcases z'j t k with h|h
   ·exact hs t h
   ·obtain rfl:t=k:=by omega
    exact h3
  ·rcases z'j t k with h|h
   ·exact hb t h
   ·obtain rfl:t=k:=by omega
    exact fun i hi=>he i hi
  ·simp[sub,upd]
 have c4:=Zhc [((c.bufs.getD k []).getD j (0,0)).1,((c.bufs.getD k []).getD j (0,0)).2] (by simp)
 have e4:[((c.bufs.getD k []).getD j (0,0)).1,((c.bufs.getD k []).getD j (0,0)).2].all okN=Ze5 ((c.bufs.getD k []).getD j (0,0)):=by simp[Ze5]
 rw[e4]at c4
 cases h4:Ze5 ((c.bufs.getD k []).getD j (0,0))with
 |false=>
  rw[h4]at c4
  have hR:ZaE c=false:=Zbv fun h=>by rw[h.bufs k (by have:=h.b;omega) j hjt]at h4;cases h4
  rw[hR]
  repeat' first|refine vs T rfl fun K hK=>?_;(try simp (disch:=omega) only[go_sem,Nat.reduceBEq,Nat.reduceAdd,Nat.reduceMul,Nat.reduceLeDiff,ZkO,eR,z'O,z'q]);(first|refine hK _ _ ?_;clear hK K|intro bq hbq;(try simp only[HB]at hbq);refine hK _ _ ?_;clear hK K|refine⟨?_,hK _ _ ?_⟩<;>clear hK K;focus(try omega)|refine Op1.lend rfl rfl (c4) (ZgG ZjB) (.inr rfl) ?_;refine hK _ _ ?_;clear hK K)|refine st rfl ?_|refine sc rfl ?_|refine nl ?_|exact z'A T (z'a _) ⟨rfl,rfl⟩|with_reducible refine z'B (fun hc=>?_) (fun hc=>?_)<;>(try simp only[decide_eq_true_eq,decide_eq_false_iff_not,z'F]at hc)<;>(try(exfalso;omega))
 |true=>
  rw[h4]at c4
  repeat' first|refine vs T rfl fun K hK=>?_;(try simp (disch:=omega) only[go_sem,Nat.reduceBEq,Nat.reduceAdd,Nat.reduceMul,Nat.reduceLeDiff,ZkO,eR,z'E,z'q,w64]);(first|refine hK _ _ ?_;clear hK K|intro bq hbq;(try simp only[HB]at hbq);refine hK _ _ ?_;clear hK K|refine⟨?_,hK _ _ ?_⟩<;>clear hK K;focus(try omega)|refine Op1.lend rfl rfl (c4) (ZgG ZjB) (.inr rfl) ?_;refine hK _ _ ?_;clear hK K)|refine st rfl ?_|refine sc rfl ?_|refine nl ?_|with_reducible refine z'B (fun hc=>?_) (fun hc=>?_)<;>(try simp only[decide_eq_true_eq,decide_eq_false_iff_not,z'F]at hc)<;>(try(exfalso;omega))
  refine⟨⟨j+1,by omega,fun i hi=>?_⟩,x'g rfl ?_,by dsimp only;omega⟩
  ·rcases z'j i j with h|h
   ·exact he i h
   ·obtain rfl:i=j:=by omega
    exact h4
  ·simp[sub,upd]
end Go.Proofs.YthlkpnjjkgmlkaaGreat
