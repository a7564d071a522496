/- Contracts: the reference's edges. No condition. -/
import Derived.Test.YtomcmfbpmkklmaaGreatDb
import Derived.Test.YtomcmfbpmkklmaaGreatWb
namespace Go.Proofs.YtomcmfbpmkklmaaGreat
set_option maxHeartbeats 16000000
set_option linter.unusedSimpArgs false
set_option linter.unusedVariables false
set_option maxRecDepth 20000
open Go Go.Proofs Go.Vc
attribute [local irreducible] y'0 VCg VCw VCx
theorem Zgm (g:Cs) (hg:OkG g):Pure Tryz.prog 28 [.agg (csC g)] (iD (v'3 g:Nat)):=by
 have h1:=hg.st
 have c1:=ZdY g hg
 unfold v'3
 refine Fun.of T [.tmp 2] Tryz.func28 rfl Tryz.ntmps28 Tryz.results28 rfl (by kernel_rfl) ?_
 cases hR:ZbO g with
 |false=>
  rw[hR]at c1
  repeat' first|refine vb (t:=32) rfl rfl rfl rfl ?_|refine vs T rfl fun K hK=>?_;(try simp (disch:=omega) only[go_sem,Nat.reduceBEq,Nat.reduceAdd,Nat.reduceLeDiff,z'q]);(first|refine hK _ _ ?_;clear hK K|refine Op1.callp rfl rfl (c1) rfl ?_;refine hK _ _ ?_;clear hK K)|refine st rfl ?_|refine sc rfl ?_|refine nl ?_|exact z'j T (z'a _) ⟨rfl,rfl⟩
 |true=>
  rw[hR]at c1
  have:=(Zas.1 hR).one
  have hw:IntKind.i64.wrap ((g.st.length:Int)-1)=((g.st.length-1:Nat):Int):=by rw[w64 (by omega)];omega
  repeat' first|refine vb (t:=32) rfl rfl rfl rfl ?_|refine vs T rfl fun K hK=>?_;(try simp (disch:=omega) only[go_sem,Nat.reduceBEq,Nat.reduceAdd,Nat.reduceLeDiff,z'i,z'l,hw]);(first|refine hK _ _ ?_;clear hK K|refine Op1.callp rfl rfl (c1) rfl ?_;refine hK _ _ ?_;clear hK K)|refine st rfl ?_|refine sc rfl ?_|refine nl ?_|exact z'j T (z'a _) ⟨rfl,rfl⟩
theorem Zmt (g:Cs) (hg:OkG g) (i:Int):Pure Tryz.prog 51 [.agg (csC g),iD i] (v'p (ZeV g i)):=by
 have h1:=hg.st
 have h2:=hg.ag
 have h3:=hg.to
 have c1:=Zgm g hg
 refine Fun.freeze (Zfv _) ?_
 refine Fun.of T [.tmp 4] Tryz.func51 rfl Tryz.ntmps51 Tryz.results51 rfl (by kernel_rfl) ?_
 cases hd:decide (0≤i)&&decide (i<(v'3 g:Int))with
 |false=>
  have:ZeV g i=[]:=by simp[ZeV,hd]
  rw[this]
  simp only[Zah,decide_eq_false_iff_not]at hd
  repeat' first|refine vb (t:=32) rfl rfl rfl rfl ?_|refine vs T rfl fun K hK=>?_;(try simp (disch:=omega) only[go_sem,Nat.reduceBEq,Nat.reduceAdd,Nat.reduceLeDiff]);(first|refine hK _ _ ?_;clear hK K|refine Op1.callp rfl rfl (c1) rfl ?_;refine hK _ _ ?_;clear hK K)|refine st rfl ?_|refine sc rfl ?_|refine nl ?_|refine gs rfl rfl ?_|with_reducible refine z's (fun hc=>?_) (fun hc=>?_)<;>(try simp only[decide_eq_true_eq,decide_eq_false_iff_not,ge_iff_le,x'd,z'u]at hc)<;>(try(exfalso;omega))
  all_goals exact z'j T (z'a _) ⟨none,0,rfl,rfl⟩
 |true=>
  have hO:ZeV g i=Zez g i.toNat:=by simp only[ZeV,hd]
  rw[hO]
  simp only[z'h,decide_eq_true_eq]at hd
  obtain⟨i,rfl⟩: ∃n:Nat,i=(n:Int):=⟨i.toNat,by omega⟩
  have hR:ZbO g=true:=by
   cases hR:ZbO g with
   |true=>rfl
   |false=>simp[v'3,hR]at hd;omega
  have hn:v'3 g=g.st.length-1:=by simp[v'3,hR]
  have gr:=Zas.1 hR
  have b1:=gr.bnd (i:=i) (by omega)
  have b2:=gr.bnd (i:=i+1) (by omega)
  have b3:=gr.up i (by omega)
  have b4:=gr.ag
  have b5:=gr.one
  rw[hn]at hd c1
  rw[z'o]
  repeat' first|refine vb (t:=32) rfl rfl rfl rfl ?_|refine vs T rfl fun K hK=>?_;(try simp (disch:=omega) only[go_sem,Nat.reduceBEq,Nat.reduceAdd,Nat.reduceLeDiff,x'7]);(first|refine hK _ _ ?_;clear hK K|refine⟨?_,hK _ _ ?_⟩<;>clear hK K;focus(try omega)|refine Op1.callp rfl rfl (c1) rfl ?_;refine hK _ _ ?_;clear hK K)|refine st rfl ?_|refine sc rfl ?_|refine nl ?_|refine gs rfl rfl ?_|with_reducible refine z's (fun hc=>?_) (fun hc=>?_)<;>(try simp only[decide_eq_true_eq,decide_eq_false_iff_not,ge_iff_le,x'd]at hc)<;>(try(exfalso;omega))
  refine VC.loop {p:Nat×Option (Nat×Nat)//(g.st.getD i 0).toNat≤p.1∧p.1≤(g.st.getD (i+1) 0).toNat} (fun p=>⟨z'M [(1,iD (i:Nat)),(2,.pt (csC g)),(5,.gs p.1.2 (ZbR g i p.1.1).length),(6,iD (p.1.1:Nat))],shp p.1.2 62 3 (Zat (ZbR g i p.1.1)).flatten []⟩) (fun p=>g.to.length-p.1.1) ⟨((g.st.getD i 0).toNat,none),by dsimp only;omega⟩ ?_ ?_
  ·refine z'G (by rw[Zgr];rfl) ?_
   simp[sub,upd,Zgr, -List.getD_eq_getElem?_getD]
   omega
  rintro⟨⟨k,a⟩,hk1,hk2⟩
  dsimp only at hk1 hk2⊢
  have hl:=ZfQ g i k
  repeat' first|refine dr (id:=7) T 14 (by kernel_rfl) ?_|refine gn ?_|(first|apply VCg.step T rfl rfl|apply exF);focus((try simp (disch:=omega) only[go_sem,Nat.reduceBEq,Nat.reduceAdd,Nat.reduceMul,Nat.reduceLeDiff,x'7,z'o]);(first|exact rfl|refine⟨?_,rfl⟩;try omega))|refine vs T rfl fun K hK=>?_;(try simp (disch:=omega) only[go_sem,Nat.reduceBEq,x'7,w64,Zh8]);(first|refine hK _ _ ?_;clear hK K|refine⟨_,_,_,_,(by repeat (exact Sp.here)),?_,(by exact⟨rfl,rfl⟩),?_,fun g' hg'=>hK _ _ ?_⟩<;>clear hK K|refine⟨?_,hK _ _ ?_⟩<;>clear hK K;focus(try omega))|refine st rfl ?_|refine sc rfl ?_|refine nl ?_|with_reducible refine z's (fun hc=>?_) (fun hc=>?_)<;>(try simp only[decide_eq_true_eq,decide_eq_false_iff_not,z'u]at hc)
  ·exact ZcN _
  ·omega
  ·refine⟨⟨(k+1,g'),by dsimp only;omega⟩,z'G ?_ ?_,by dsimp only;omega⟩
   ·dsimp only
    rw[Zda hk1,Zb8]
    rfl
   ·simp[sub,upd,Zda hk1]
  ·obtain rfl:k=(g.st.getD (i+1) 0).toNat:=by omega
   exact z'j T (z'm _) ⟨a,62,by rw[w'7];rfl,rfl⟩
theorem ZqC (x y:Ed):EqS Tryz.prog 62 [.int .i64 x.1,.int .i64 x.2.1,.int .i64 x.2.2] [.int .i64 y.1,.int .i64 y.2.1,.int .i64 y.2.2] (decide (x=y)):=by
 refine⟨by kernel_rfl,fun w=>?_⟩
 obtain⟨a,b,c⟩:=x
 obtain⟨a',b',c'⟩:=y
 have u3:=Tryz.underlying3
 have a3:=Tryz.isAgg3
 have z3:=Tryz.sizeOf3
 have hS:Tryz.prog.underlying 62=some (.struct (Tryz.prog.fieldsOf 62)):=by kernel_rfl
 have hp:Tryz.prog.stoodInHeld 62=false:=by kernel_rfl
 rw[show(10000:Nat)=9999+1 from rfl,run_equalIn_agg w 9999 62 _ _ hS hp]
 simp only[Program.fieldsOf,Tryz.underlying62]
 go_simp
 by_cases h1:a=a'<;>by_cases h2:b=b'<;>by_cases h3:c=c'<;>simp[h1,h2,h3]
theorem ZlR (a b:List Ed) (ha:a.length≤1000000) (hb:b.length≤1000000):Pure Tryz.prog 79 [v'p a,v'p b] (bD (decide (a=b))):=by
 refine Fun.of T [.tmp 4] Tryz.func79 rfl Tryz.ntmps79 Tryz.results79 rfl (by kernel_rfl) ?_
 repeat' first|refine vs T rfl fun K hK=>?_;(try simp (disch:=omega) only[go_sem,Nat.reduceBEq,w'7]);(refine hK _ _ ?_;clear hK K)|refine st rfl ?_|refine sc rfl ?_|refine nl ?_|refine z'j T (z'a _) ?_;(try simp only[upd,Nat.reduceBEq,cond_true,cond_false,and_true])|with_reducible refine z's (fun hc=>?_) (fun hc=>?_)<;>(try simp only[bne_iff_ne,bne_eq_false_iff_eq,ne_eq]at hc)
 ·exact congrArg bD (decide_eq_false fun h=>by subst h;omega).symm
 refine VC.loop {k:Nat//k≤a.length∧ ∀i,i<k→a.getD i (0,0,0)=b.getD i (0,0,0)} (fun p=>⟨z'M [(0,v'p a),(1,v'p b),(5,iD (p.1:Nat))],[]⟩) (fun p=>a.length-p.1) ⟨0,by omega,fun i hi=>by omega⟩ ?_ ?_
 ·refine Weak.sub ?_
  simp[sub,upd]
 rintro⟨k,hk,hs⟩
 dsimp only
 repeat' first|refine dr (id:=6) T 8 (by kernel_rfl) ?_|refine gn ?_|apply VCg.step T rfl rfl;focus((try simp (disch:=omega) only[go_sem,Nat.reduceBEq,Nat.reduceAdd,Nat.reduceLeDiff,Zci,edR,z'o]);(first|exact rfl|refine⟨?_,rfl⟩;try omega))|refine vs T rfl fun K hK=>?_;(try simp (disch:=omega) only[go_sem,Nat.reduceBEq,w'7,w64]);(first|refine hK _ _ ?_;clear hK K|refine Op1.eqS rfl (ZqC _ _) rfl rfl rfl ?_;refine hK _ _ ?_;clear hK K)|refine st rfl ?_|refine sc rfl ?_|refine nl ?_|refine z'j T (z'a _) ?_;(try simp only[upd,Nat.reduceBEq,cond_true,cond_false,and_true])|with_reducible refine z's (fun hc=>?_) (fun hc=>?_)<;>(try simp only[decide_eq_true_eq,decide_eq_false_iff_not,y'C,y'3,z'u]at hc)
 ·exact congrArg bD (decide_eq_false fun h=>by subst h;simp_all).symm
 ·refine⟨⟨k+1,by omega,ZcA hs (by simp_all)⟩,Weak.sub ?_,by simp only[];omega⟩
  simp[sub,upd]
 ·exact congrArg bD (decide_eq_true (v'8 (by omega) fun i hi=>hs i (by omega))).symm
theorem ZmW (a b:List Bool) (ha:a.length≤1000000) (hb:b.length≤1000000):Pure Tryz.prog 43 [v'Q a,v'Q b] (bD (decide (a=b))):=by
 refine Fun.of T [.tmp 4] Tryz.func43 rfl Tryz.ntmps43 Tryz.results43 rfl (by kernel_rfl) ?_
 repeat' first|refine vs T rfl fun K hK=>?_;(try simp (disch:=omega) only[go_sem,Nat.reduceBEq,Ze2]);(refine hK _ _ ?_;clear hK K)|refine st rfl ?_|refine sc rfl ?_|refine nl ?_|refine z'j T (z'a _) ?_;(try simp only[upd,Nat.reduceBEq,cond_true,cond_false,and_true])|with_reducible refine z's (fun hc=>?_) (fun hc=>?_)<;>(try simp only[bne_iff_ne,bne_eq_false_iff_eq,ne_eq]at hc)
 ·exact congrArg bD (decide_eq_false fun h=>by subst h;omega).symm
 refine VC.loop {k:Nat//k≤a.length∧ ∀i,i<k→a.getD i false=b.getD i false} (fun p=>⟨z'M [(0,v'Q a),(1,v'Q b),(5,iD (p.1:Nat))],[]⟩) (fun p=>a.length-p.1) ⟨0,by omega,fun i hi=>by omega⟩ ?_ ?_
 ·refine Weak.sub ?_
  simp[sub,upd]
 rintro⟨k,hk,hs⟩
 dsimp only
 repeat' first|refine dr (id:=6) T 8 (by kernel_rfl) ?_|refine gn ?_|apply VCg.step T rfl rfl;focus((try simp (disch:=omega) only[go_sem,Nat.reduceBEq,ZmR,z'o]);(first|exact rfl|refine⟨?_,rfl⟩;try omega))|refine vs T rfl fun K hK=>?_;(try simp (disch:=omega) only[go_sem,Nat.reduceBEq,Ze2,w64]);(refine hK _ _ ?_;clear hK K)|refine st rfl ?_|refine sc rfl ?_|refine nl ?_|refine z'j T (z'a _) ?_;(try simp only[upd,Nat.reduceBEq,cond_true,cond_false,and_true])|with_reducible refine z's (fun hc=>?_) (fun hc=>?_)<;>(try simp only[decide_eq_true_eq,decide_eq_false_iff_not,bne_iff_ne,bne_eq_false_iff_eq,ne_eq,z'u]at hc)
 ·exact congrArg bD (decide_eq_false fun h=>by subst h;simp_all).symm
 ·refine⟨⟨k+1,by omega,ZcA hs (by simp_all)⟩,Weak.sub ?_,by simp only[];omega⟩
  simp[sub,upd]
 ·exact congrArg bD (decide_eq_true (v'8 (by omega) fun i hi=>hs i (by omega))).symm
def Ze1 (a b:Cs):Bool:=decide (a.st=b.st)&&(decide (a.to=b.to)&&decide (a.ag=b.ag))
theorem Zd0 {a b:Cs} (h: ¬(a.st=b.st∧a.to=b.to∧a.ag=b.ag)):false=Ze1 a b:=by
 symm
 rw[←Bool.not_eq_true]
 simpa[Ze1]using h
theorem Zk4 (a b:Cs) (ha:OkG a) (hb:OkG b):Pure Tryz.prog 86 [.agg (csC a),.agg (csC b)] (bD (Ze1 a b)):=by
 have a1:=ha.st
 have a2:=ha.ag
 have a3:=ha.to
 have b1:=hb.st
 have b2:=hb.ag
 have b3:=hb.to
 refine Fun.of T [.tmp 4] Tryz.func86 rfl Tryz.ntmps86 Tryz.results86 rfl (by kernel_rfl) ?_
 repeat' first|refine vb (t:=32) rfl rfl rfl rfl ?_|refine vs T rfl fun K hK=>?_;(try simp (disch:=omega) only[go_sem,Nat.reduceBEq,z'l]);(refine hK _ _ ?_;clear hK K)|refine st rfl ?_|refine sc rfl ?_|refine nl ?_|refine gs rfl rfl ?_|refine z'j T (z'a _) ?_;(try simp only[upd,Nat.reduceBEq,cond_true,cond_false,and_true])|with_reducible refine z's (fun hc=>?_) (fun hc=>?_)<;>(try simp only[bne_iff_ne,bne_eq_false_iff_eq,ne_eq]at hc)
 any_goals(refine congrArg bD (Zd0 fun h=>?_);have e1:=congrArg List.length h.1;have e2:=congrArg List.length h.2.1;have e3:=congrArg List.length h.2.2;omega)
 refine VC.loop {k:Nat//k≤a.st.length∧ ∀i,i<k→a.st.getD i 0=b.st.getD i 0} (fun p=>⟨z'M [(2,.pt (csC a)),(3,.pt (csC b)),(5,iD (p.1:Nat))],[]⟩) (fun p=>a.st.length-p.1) ⟨0,by omega,fun i hi=>by omega⟩ ?_ ?_
 ·refine Weak.sub ?_
  simp[sub,upd]
 rintro⟨k,hk,hs⟩
 dsimp only
 repeat' first|refine dr (id:=6) T 10 (by kernel_rfl) ?_|refine gn ?_|(first|apply VCg.step T rfl rfl|apply exF);focus((try simp (disch:=omega) only[go_sem,Nat.reduceBEq,x'7,z'o]);(first|exact rfl|refine⟨?_,rfl⟩;try omega))|refine vs T rfl fun K hK=>?_;(try simp (disch:=omega) only[go_sem,Nat.reduceBEq,z'l,w64]);(refine hK _ _ ?_;clear hK K)|refine st rfl ?_|refine sc rfl ?_|refine nl ?_|refine z'j T (z'a _) ?_;(try simp only[upd,Nat.reduceBEq,cond_true,cond_false,and_true])|with_reducible refine z's (fun hc=>?_) (fun hc=>?_)<;>(try simp only[decide_eq_true_eq,decide_eq_false_iff_not,bne_iff_ne,bne_eq_false_iff_eq,ne_eq,z'u]at hc)
 ·rename_i hc;exact congrArg bD (Zd0 fun h=>hc (by rw[h.1]))
 ·refine⟨⟨k+1,by omega,ZcA hs (by simp_all)⟩,Weak.sub ?_,by simp only[];omega⟩
  simp[sub,upd]
 have e1:a.st=b.st:=v'8 (by omega) fun i hi=>hs i (by omega)
 refine VC.loop {k:Nat//k≤a.to.length∧ ∀i,i<k→a.to.getD i 0=b.to.getD i 0} (fun p=>⟨z'M [(2,.pt (csC a)),(3,.pt (csC b)),(6,iD (p.1:Nat))],[]⟩) (fun p=>a.to.length-p.1) ⟨0,by omega,fun i hi=>by omega⟩ ?_ ?_
 ·refine Weak.sub ?_
  simp[sub,upd]
 rintro⟨j,hj,ht⟩
 dsimp only
 repeat' first|refine dr (id:=11) T 10 (by kernel_rfl) ?_|refine gn ?_|(first|apply VCg.step T rfl rfl|apply exF);focus((try simp (disch:=omega) only[go_sem,Nat.reduceBEq,x'7,z'o]);(first|exact rfl|refine⟨?_,rfl⟩;try omega))|refine vs T rfl fun K hK=>?_;(try simp (disch:=omega) only[go_sem,Nat.reduceBEq,z'l,w64]);(refine hK _ _ ?_;clear hK K)|refine st rfl ?_|refine sc rfl ?_|refine nl ?_|refine z'j T (z'a _) ?_;(try simp only[upd,Nat.reduceBEq,cond_true,cond_false,and_true])|with_reducible refine z's (fun hc=>?_) (fun hc=>?_)<;>(try simp only[decide_eq_true_eq,decide_eq_false_iff_not,bne_iff_ne,bne_eq_false_iff_eq,ne_eq,z'u]at hc)
 ·rename_i hc;exact congrArg bD (Zd0 fun h=>hc (by rw[h.2.1]))
 ·refine⟨⟨j+1,by omega,ZcA ht (by simp_all)⟩,Weak.sub ?_,by simp only[];omega⟩
  simp[sub,upd]
 have e2:a.to=b.to:=v'8 (by omega) fun i hi=>ht i (by omega)
 refine VC.loop {k:Nat//k≤a.ag.length∧ ∀i,i<k→a.ag.getD i 0=b.ag.getD i 0} (fun p=>⟨z'M [(2,.pt (csC a)),(3,.pt (csC b)),(7,iD (p.1:Nat))],[]⟩) (fun p=>a.ag.length-p.1) ⟨0,by omega,fun i hi=>by omega⟩ ?_ ?_
 ·refine Weak.sub ?_
  simp[sub,upd]
 rintro⟨l,hl,hu⟩
 dsimp only
 repeat' first|refine dr (id:=16) T 10 (by kernel_rfl) ?_|refine gn ?_|(first|apply VCg.step T rfl rfl|apply exF);focus((try simp (disch:=omega) only[go_sem,Nat.reduceBEq,x'7,z'o]);(first|exact rfl|refine⟨?_,rfl⟩;try omega))|refine vs T rfl fun K hK=>?_;(try simp (disch:=omega) only[go_sem,Nat.reduceBEq,z'l,w64]);(refine hK _ _ ?_;clear hK K)|refine st rfl ?_|refine sc rfl ?_|refine nl ?_|refine z'j T (z'a _) ?_;(try simp only[upd,Nat.reduceBEq,cond_true,cond_false,and_true])|with_reducible refine z's (fun hc=>?_) (fun hc=>?_)<;>(try simp only[decide_eq_true_eq,decide_eq_false_iff_not,bne_iff_ne,bne_eq_false_iff_eq,ne_eq,z'u]at hc)
 ·rename_i hc;exact congrArg bD (Zd0 fun h=>hc (by rw[h.2.2]))
 ·refine⟨⟨l+1,by omega,ZcA hu (by simp_all)⟩,Weak.sub ?_,by simp only[];omega⟩
  simp[sub,upd]
 have e3:a.ag=b.ag:=v'8 (by omega) fun i hi=>hu i (by omega)
 simp[Ze1,e1,e2,e3]
def isB (l:List Bool) (i:Int):Bool:=decide (i<l.length)&&l.getD i.toNat false
theorem ZlQ (g:Cs) (hg:OkG g):Pure Tryz.prog 31 [.agg (csC g)] (v'p (ZfU g)):=by
 have h1:=hg.st
 have h2:=hg.ag
 have h3:=hg.to
 have c1:=ZdY g hg
 refine Fun.freeze (Zfv _) ?_
 refine Fun.of T [.tmp 2] Tryz.func31 rfl Tryz.ntmps31 Tryz.results31 rfl (by kernel_rfl) ?_
 cases hR:ZbO g with
 |false=>
  have:ZfU g=[]:=by simp[ZfU,v'3,hR,upG]
  rw[this]
  rw[hR]at c1
  repeat' first|refine vb (t:=32) rfl rfl rfl rfl ?_|refine vs T rfl fun K hK=>?_;(try simp (disch:=omega) only[go_sem,Nat.reduceBEq,Nat.reduceAdd,Nat.reduceLeDiff,z'q]);(first|refine hK _ _ ?_;clear hK K|refine Op1.callp rfl rfl (c1) rfl ?_;refine hK _ _ ?_;clear hK K)|refine st rfl ?_|refine sc rfl ?_|refine nl ?_
  exact z'j T (z'a _) ⟨none,0,rfl,rfl⟩
 |true=>
  have hn:ZfU g=upG g (g.st.length-1):=by simp[ZfU,v'3,hR]
  rw[hn]
  rw[hR]at c1
  have gr:=Zas.1 hR
  have b4:=gr.ag
  have b5:=gr.one
  repeat' first|refine vb (t:=32) rfl rfl rfl rfl ?_|refine vs T rfl fun K hK=>?_;(try simp (disch:=omega) only[go_sem,Nat.reduceBEq,Nat.reduceAdd,Nat.reduceLeDiff,z'i]);(first|refine hK _ _ ?_;clear hK K|refine Op1.callp rfl rfl (c1) rfl ?_;refine hK _ _ ?_;clear hK K)|refine st rfl ?_|refine sc rfl ?_|refine nl ?_
  refine VC.loop {p:Nat×Option (Nat×Nat)//p.1≤g.st.length-1} (fun p=>⟨z'M [(1,.pt (csC g)),(3,.gs p.1.2 (upG g p.1.1).length),(4,iD (p.1.1:Nat))],shp p.1.2 62 3 (Zat (upG g p.1.1)).flatten []⟩) (fun p=>g.st.length-p.1.1) ⟨(0,none),z'6 _⟩ ?_ ?_
  ·refine z'G rfl ?_
   simp[sub,upd,upG]
  rintro⟨⟨i,a⟩,hi⟩
  dsimp only at hi⊢
  have b1:=gr.bnd hi
  have b6:=gr.upl hi
  repeat' first|refine vs T rfl fun K hK=>?_;(try simp (disch:=omega) only[go_sem,Nat.reduceBEq,x'7,w64,z'o,z'l]);(first|refine hK _ _ ?_;clear hK K|refine⟨?_,hK _ _ ?_⟩<;>clear hK K;focus(try omega))|refine st rfl ?_|refine sc rfl ?_|refine nl ?_|with_reducible refine z's (fun hc=>?_) (fun hc=>?_)<;>(try simp only[decide_eq_true_eq,decide_eq_false_iff_not,z'u]at hc)
  ·have b2:=gr.bnd (i:=i+1) (by omega)
   have b3:=gr.up i (by omega)
   refine VC.loop {p:Nat×Option (Nat×Nat)//(g.st.getD i 0).toNat≤p.1∧p.1≤(g.st.getD (i+1) 0).toNat} (fun p=>⟨z'M [(1,.pt (csC g)),(3,.gs p.1.2 (upG g i++ZbR g i p.1.1).length),(4,iD (i:Nat)),(5,iD (p.1.1:Nat))],shp p.1.2 62 3 (Zat (upG g i++ZbR g i p.1.1)).flatten []⟩) (fun p=>g.to.length-p.1.1) ⟨((g.st.getD i 0).toNat,a),by dsimp only;omega⟩ ?_ ?_
   ·refine z'G (by rw[Zgr,z'r]) ?_
    simp[sub,upd,Zgr, -List.getD_eq_getElem?_getD]
    omega
   rintro⟨⟨k,a⟩,hk1,hk2⟩
   dsimp only at hk1 hk2⊢
   have hl:=ZfQ g i k
   have hl2:(upG g i++ZbR g i k).length=k:=by rw[z'k,hl];omega
   repeat' first|refine dr (id:=10) T 14 (by kernel_rfl) ?_|refine gn ?_|apply VCg.step T rfl rfl;focus((try simp (disch:=omega) only[go_sem,Nat.reduceBEq,Nat.reduceAdd,Nat.reduceMul,Nat.reduceLeDiff,x'7,z'o]);(first|exact rfl|refine⟨?_,rfl⟩;try omega))|refine vs T rfl fun K hK=>?_;(try simp (disch:=omega) only[go_sem,Nat.reduceBEq,x'7,w64,Zh8]);(first|refine hK _ _ ?_;clear hK K|refine⟨_,_,_,_,(by repeat (exact Sp.here)),?_,(by exact⟨rfl,rfl⟩),?_,fun g' hg'=>hK _ _ ?_⟩<;>clear hK K|refine⟨?_,hK _ _ ?_⟩<;>clear hK K;focus(try omega))|refine st rfl ?_|refine sc rfl ?_|refine nl ?_|with_reducible refine z's (fun hc=>?_) (fun hc=>?_)<;>(try simp only[decide_eq_true_eq,decide_eq_false_iff_not,z'u]at hc)
   ·exact ZcN _
   ·omega
   ·refine⟨⟨(k+1,g'),by dsimp only;omega⟩,z'G ?_ ?_,by dsimp only;omega⟩
    ·dsimp only
     rw[Zda hk1, ←z'7,Zb8]
     rfl
    ·simp[sub,upd,Zda hk1]
     omega
   ·obtain rfl:k=(g.st.getD (i+1) 0).toNat:=by omega
    refine⟨⟨(i+1,a),by dsimp only;omega⟩,z'G ?_ ?_,by dsimp only;omega⟩
    ·dsimp only
     rw[ZfR];rfl
    ·simp[sub,upd,ZfR,Zez]
  ·obtain rfl:i=g.st.length-1:=by omega
   exact z'j T (z'm _) ⟨a,62,by rw[w'7];rfl,rfl⟩
end Go.Proofs.YtomcmfbpmkklmaaGreat
