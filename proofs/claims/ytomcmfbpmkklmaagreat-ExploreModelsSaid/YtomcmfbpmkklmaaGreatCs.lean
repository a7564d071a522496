/- Contracts: whether two configurations are the same, by the program. No condition. -/
import Derived.Test.YtomcmfbpmkklmaaGreatDd
import Derived.Test.YtomcmfbpmkklmaaGreatFd
import Derived.Test.YtomcmfbpmkklmaaGreatXg
import Derived.Test.YtomcmfbpmkklmaaGreatDg
import Derived.Test.YtomcmfbpmkklmaaGreatRa
import Derived.Test.YtomcmfbpmkklmaaGreatRj
import Derived.Test.YtomcmfbpmkklmaaGreatSa
namespace Go.Proofs.YtomcmfbpmkklmaaGreat
set_option maxHeartbeats 16000000
set_option linter.unusedSimpArgs false
set_option linter.unusedVariables false
set_option maxRecDepth 20000
open Go Go.Proofs Go.Vc
attribute [local irreducible] y'0 VCg VCw VCx
abbrev ZgH (l:List (List Int)):D:= .sl false 1 (x'j l)
abbrev Zgx (l:List (List En)):D:= .sl false 1 (y'U l)
theorem Zf9 {α:Type} {l:List (List α)} (h: ∀r,r∈l→r.length≤1000000) (k:Nat):(l.getD k []).length≤1000000:=by
 rw[z'd]
 cases hk:l[k]? with
 |none=>exact z'6 _
 |some r=>exact h r (z'f hk)
theorem ZgR (a b:List (Int)) (ha:a.length≤1000000) (hb:b.length≤1000000):Pure Tryz.prog 127 [z'S a,z'S b] (bD (decide (a=b))):=by
 refine Fun.of T [.tmp 4] Tryz.func127 rfl Tryz.ntmps127 Tryz.results127 rfl (by kernel_rfl) ?_
 repeat' first|refine vs T rfl fun K hK=>?_;(try simp (disch:=omega) only[go_sem,Nat.reduceBEq,z'l]);(refine hK _ _ ?_;clear hK K)|refine st rfl ?_|refine sc rfl ?_|refine nl ?_|refine z'j T (z'a _) ?_;(try simp only[upd,Nat.reduceBEq,cond_true,cond_false,and_true])|with_reducible refine z's (fun hc=>?_) (fun hc=>?_)<;>(try simp only[bne_iff_ne,bne_eq_false_iff_eq,ne_eq]at hc)
 ·exact congrArg bD (decide_eq_false fun h=>by subst h;omega).symm
 refine VC.loop {k:Nat//k≤a.length∧ ∀i,i<k→a.getD i 0=b.getD i 0} (fun p=>⟨z'M [(0,z'S a),(1,z'S b),(11,z'S a),(12,iD (a.length:Nat)),(13,iD (p.1:Nat))],[]⟩) (fun p=>a.length-p.1) ⟨0,by omega,fun i hi=>by omega⟩ ?_ ?_
 ·refine Weak.sub ?_
  simp[sub,upd,z'l]
 rintro⟨k,hk,hs⟩
 dsimp only
 repeat' first|refine dr (id:=6) T 8 (by kernel_rfl) ?_|refine gn ?_|apply VCg.step T rfl rfl;focus((try simp (disch:=omega) only[go_sem,Nat.reduceBEq,x'7,z'o]);(first|exact rfl|refine⟨?_,rfl⟩;try omega))|refine vs T rfl fun K hK=>?_;(try simp (disch:=omega) only[go_sem,Nat.reduceBEq,w64]);(refine hK _ _ ?_;clear hK K)|refine st rfl ?_|refine sc rfl ?_|refine nl ?_|refine z'j T (z'a _) ?_;(try simp only[upd,Nat.reduceBEq,cond_true,cond_false,and_true])|with_reducible refine z's (fun hc=>?_) (fun hc=>?_)<;>(try simp only[decide_eq_true_eq,decide_eq_false_iff_not,bne_iff_ne,bne_eq_false_iff_eq,ne_eq,z'u]at hc)
 ·exact congrArg bD (decide_eq_false fun h=>by subst h;simp_all).symm
 ·refine⟨⟨k+1,by omega,ZcA hs (by simp_all)⟩,Weak.sub ?_,by simp only[];omega⟩
  simp[sub,upd]
 ·exact congrArg bD (decide_eq_true (v'8 (by omega) fun i hi=>hs i (by omega))).symm
theorem Znz (a b:List (En)) (ha:a.length≤1000000) (hb:b.length≤1000000):Pure Tryz.prog 159 [buf a,buf b] (bD (decide (a=b))):=by
 refine Fun.of T [.tmp 4] Tryz.func159 rfl Tryz.ntmps159 Tryz.results159 rfl (by kernel_rfl) ?_
 repeat' first|refine vs T rfl fun K hK=>?_;(try simp (disch:=omega) only[go_sem,Nat.reduceBEq,z't]);(refine hK _ _ ?_;clear hK K)|refine st rfl ?_|refine sc rfl ?_|refine nl ?_|refine z'j T (z'a _) ?_;(try simp only[upd,Nat.reduceBEq,cond_true,cond_false,and_true])|with_reducible refine z's (fun hc=>?_) (fun hc=>?_)<;>(try simp only[bne_iff_ne,bne_eq_false_iff_eq,ne_eq]at hc)
 ·exact congrArg bD (decide_eq_false fun h=>by subst h;omega).symm
 refine VC.loop {k:Nat//k≤a.length∧ ∀i,i<k→a.getD i (0,0)=b.getD i (0,0)} (fun p=>⟨z'M [(0,buf a),(1,buf b),(11,buf a),(12,iD (a.length:Nat)),(13,iD (p.1:Nat))],[]⟩) (fun p=>a.length-p.1) ⟨0,by omega,fun i hi=>by omega⟩ ?_ ?_
 ·refine Weak.sub ?_
  simp[sub,upd,z't]
 rintro⟨k,hk,hs⟩
 dsimp only
 repeat' first|refine dr (id:=6) T 8 (by kernel_rfl) ?_|refine gn ?_|apply VCg.step T rfl rfl;focus((try simp (disch:=omega) only[go_sem,Nat.reduceBEq,Nat.reduceAdd,Nat.reduceLeDiff,Zp2,eR,z'o]);(first|exact rfl|refine⟨?_,rfl⟩;try omega))|refine vs T rfl fun K hK=>?_;(try simp (disch:=omega) only[go_sem,Nat.reduceBEq,w64]);(first|refine hK _ _ ?_;clear hK K|refine Op1.eqS rfl (Zqy _ _) rfl rfl rfl ?_;refine hK _ _ ?_;clear hK K)|refine st rfl ?_|refine sc rfl ?_|refine nl ?_|refine z'j T (z'a _) ?_;(try simp only[upd,Nat.reduceBEq,cond_true,cond_false,and_true])|with_reducible refine z's (fun hc=>?_) (fun hc=>?_)<;>(try simp only[decide_eq_true_eq,decide_eq_false_iff_not,y'C,y'3,z'u]at hc)
 ·exact congrArg bD (decide_eq_false fun h=>by subst h;simp_all).symm
 ·refine⟨⟨k+1,by omega,ZcA hs (by simp_all)⟩,Weak.sub ?_,by simp only[];omega⟩
  simp[sub,upd]
 ·exact congrArg bD (decide_eq_true (v'8 (by omega) fun i hi=>hs i (by omega))).symm
theorem Znv (a b:List (List Int)) (ha:a.length≤1000000) (hb:b.length≤1000000) (hr: ∀r,r∈a→r.length≤1000000) (hs_: ∀r,r∈b→r.length≤1000000):Pure Tryz.prog 128 [ZgH a,ZgH b] (bD (decide (a=b))):=by
 refine Fun.of T [.tmp 4] Tryz.func128 rfl Tryz.ntmps128 Tryz.results128 rfl (by kernel_rfl) ?_
 repeat' first|refine vs T rfl fun K hK=>?_;(try simp (disch:=omega) only[go_sem,Nat.reduceBEq,z'W]);(refine hK _ _ ?_;clear hK K)|refine st rfl ?_|refine sc rfl ?_|refine nl ?_|refine z'j T (z'a _) ?_;(try simp only[upd,Nat.reduceBEq,cond_true,cond_false,and_true])|with_reducible refine z's (fun hc=>?_) (fun hc=>?_)<;>(try simp only[bne_iff_ne,bne_eq_false_iff_eq,ne_eq]at hc)
 ·exact congrArg bD (decide_eq_false fun h=>by subst h;omega).symm
 refine VC.loop {k:Nat//k≤a.length∧ ∀i,i<k→a.getD i []=b.getD i []} (fun p=>⟨z'M [(0,ZgH a),(1,ZgH b),(11,ZgH a),(12,iD (a.length:Nat)),(13,iD (p.1:Nat))],[]⟩) (fun p=>a.length-p.1) ⟨0,by omega,fun i hi=>by omega⟩ ?_ ?_
 ·refine Weak.sub ?_
  simp[sub,upd,z'W]
 rintro⟨k,hk,hs⟩
 dsimp only
 have cs:=ZgR (a.getD k []) (b.getD k []) (Zf9 hr k) (Zf9 hs_ k)
 repeat' first|refine dr (id:=6) T 8 (by kernel_rfl) ?_|refine gn ?_|apply VCg.step T rfl rfl;focus((try simp (disch:=omega) only[go_sem,Nat.reduceBEq,Zno,z'o]);(first|exact rfl|refine⟨?_,rfl⟩;try omega))|refine vs T rfl fun K hK=>?_;(try simp (disch:=omega) only[go_sem,Nat.reduceBEq,w64]);(first|refine hK _ _ ?_;clear hK K|refine Op1.callp rfl rfl (cs) rfl ?_;refine hK _ _ ?_;clear hK K)|refine st rfl ?_|refine sc rfl ?_|refine nl ?_|refine z'j T (z'a _) ?_;(try simp only[upd,Nat.reduceBEq,cond_true,cond_false,and_true])|with_reducible refine z's (fun hc=>?_) (fun hc=>?_)<;>(try simp only[decide_eq_true_eq,decide_eq_false_iff_not,y'C,y'3,z'u]at hc)
 ·exact congrArg bD (decide_eq_false fun h=>by subst h;simp_all).symm
 ·refine⟨⟨k+1,by omega,ZcA hs (by simp_all)⟩,Weak.sub ?_,by simp only[];omega⟩
  simp[sub,upd]
 ·exact congrArg bD (decide_eq_true (v'8 (by omega) fun i hi=>hs i (by omega))).symm
theorem ZoJ (a b:List (List En)) (ha:a.length≤1000000) (hb:b.length≤1000000) (hr: ∀r,r∈a→r.length≤1000000) (hs_: ∀r,r∈b→r.length≤1000000):Pure Tryz.prog 129 [Zgx a,Zgx b] (bD (decide (a=b))):=by
 refine Fun.of T [.tmp 4] Tryz.func129 rfl Tryz.ntmps129 Tryz.results129 rfl (by kernel_rfl) ?_
 repeat' first|refine vs T rfl fun K hK=>?_;(try simp (disch:=omega) only[go_sem,Nat.reduceBEq,z'J]);(refine hK _ _ ?_;clear hK K)|refine st rfl ?_|refine sc rfl ?_|refine nl ?_|refine z'j T (z'a _) ?_;(try simp only[upd,Nat.reduceBEq,cond_true,cond_false,and_true])|with_reducible refine z's (fun hc=>?_) (fun hc=>?_)<;>(try simp only[bne_iff_ne,bne_eq_false_iff_eq,ne_eq]at hc)
 ·exact congrArg bD (decide_eq_false fun h=>by subst h;omega).symm
 refine VC.loop {k:Nat//k≤a.length∧ ∀i,i<k→a.getD i []=b.getD i []} (fun p=>⟨z'M [(0,Zgx a),(1,Zgx b),(11,Zgx a),(12,iD (a.length:Nat)),(13,iD (p.1:Nat))],[]⟩) (fun p=>a.length-p.1) ⟨0,by omega,fun i hi=>by omega⟩ ?_ ?_
 ·refine Weak.sub ?_
  simp[sub,upd,z'J]
 rintro⟨k,hk,hs⟩
 dsimp only
 have cs:=Znz (a.getD k []) (b.getD k []) (Zf9 hr k) (Zf9 hs_ k)
 repeat' first|refine dr (id:=6) T 8 (by kernel_rfl) ?_|refine gn ?_|apply VCg.step T rfl rfl;focus((try simp (disch:=omega) only[go_sem,Nat.reduceBEq,Zn2,z'o]);(first|exact rfl|refine⟨?_,rfl⟩;try omega))|refine vs T rfl fun K hK=>?_;(try simp (disch:=omega) only[go_sem,Nat.reduceBEq,w64]);(first|refine hK _ _ ?_;clear hK K|refine Op1.callp rfl rfl (cs) rfl ?_;refine hK _ _ ?_;clear hK K)|refine st rfl ?_|refine sc rfl ?_|refine nl ?_|refine z'j T (z'a _) ?_;(try simp only[upd,Nat.reduceBEq,cond_true,cond_false,and_true])|with_reducible refine z's (fun hc=>?_) (fun hc=>?_)<;>(try simp only[decide_eq_true_eq,decide_eq_false_iff_not,y'C,y'3,z'u]at hc)
 ·exact congrArg bD (decide_eq_false fun h=>by subst h;simp_all).symm
 ·refine⟨⟨k+1,by omega,ZcA hs (by simp_all)⟩,Weak.sub ?_,by simp only[];omega⟩
  simp[sub,upd]
 ·exact congrArg bD (decide_eq_true (v'8 (by omega) fun i hi=>hs i (by omega))).symm
theorem ZiFq (a b:Cf) (ha:OkC a) (hb:OkC b):Pure Tryz.prog 90 [.agg (cfC a),.agg (cfC b)] (bD (x'3 a b)):=by
 have a1:=ha.pc
 have b1:=hb.pc
 have a2:=ha.mem
 have b2:=hb.mem
 have a3:=ha.regs
 have b3:=hb.regs
 have a4:=ha.bufs
 have b4:=hb.bufs
 have c1:=ZgR a.pc b.pc (by omega) (by omega)
 have c2:=ZgR a.mem b.mem (by omega) (by omega)
 have c3:=Znv a.regs b.regs (by omega) (by omega) (fun r hr=>by have:=ha.row r hr;omega) (fun r hr=>by have:=hb.row r hr;omega)
 have c4:=ZoJ a.bufs b.bufs (by omega) (by omega) (fun r hr=>by have:=ha.buf r hr;omega) (fun r hr=>by have:=hb.buf r hr;omega)
 refine Fun.of T [.tmp 4] Tryz.func90 rfl Tryz.ntmps90 Tryz.results90 rfl (by kernel_rfl) ?_
 unfold x'3
 cases h1:decide (a.pc=b.pc)<;>cases h2:decide (a.mem=b.mem)<;>cases h3:decide (a.regs=b.regs)<;>cases h4:decide (a.bufs=b.bufs)
 all_goals
  rw[h1]at c1
  rw[h2]at c2
  rw[h3]at c3
  rw[h4]at c4
  repeat' first|refine vb rfl rfl rfl rfl ?_|refine vs T rfl fun K hK=>?_;(try simp (disch:=omega) only[go_sem,Nat.reduceBEq]);(first|refine hK _ _ ?_;clear hK K|refine Op1.callp rfl rfl (c1) rfl ?_;refine hK _ _ ?_;clear hK K|refine Op1.callp rfl rfl (c2) rfl ?_;refine hK _ _ ?_;clear hK K|refine Op1.callp rfl rfl (c3) rfl ?_;refine hK _ _ ?_;clear hK K|refine Op1.callp rfl rfl (c4) rfl ?_;refine hK _ _ ?_;clear hK K)|refine st rfl ?_|refine nl ?_|refine gs rfl rfl ?_|exact z'j T (z'a _) ⟨rfl,rfl⟩
theorem ZfM (C:List Cf) (g:Cs) (P B:List Int) (hl:C.length≤1000000) (hC: ∀c,c∈C→OkC c) (c:Cf) (hc:OkC c):Pure Tryz.prog 44 [.agg (spC C g P B),.agg (cfC c)] (iD (plI (w'u C c))):=by
 refine Fun.of T [.tmp 4] Tryz.func44 rfl Tryz.ntmps44 Tryz.results44 rfl (by kernel_rfl) ?_
 repeat' first|refine vb (t:=34) rfl rfl rfl rfl ?_|refine vb (t:=43) rfl rfl rfl rfl ?_|refine vs T rfl fun K hK=>?_;(try simp (disch:=omega) only[go_sem,Nat.reduceBEq,y'M]);(refine hK _ _ ?_;clear hK K)|refine st rfl ?_|refine nl ?_
 refine VC.loop {k:Nat//k≤C.length∧ ∀i,i<k→C[i]?≠some c} (fun p=>⟨z'M [(3,.pt (cfC c)),(8,.sl false 4 (x'I C)),(9,iD (C.length:Nat)),(10,iD (p.1:Nat))],[]⟩) (fun p=>C.length-p.1) ⟨0,by omega,fun i hi=>by omega⟩ ?_ ?_
 ·refine Weak.sub ?_
  simp[sub,upd,y'M]
 rintro⟨k,hk,hs⟩
 dsimp only
 rcases z'g k C.length with hlt|hge
 case inr=>
  obtain rfl:k=C.length:=by omega
  rw[Zlm hs]
  repeat' first|refine vs T rfl fun K hK=>?_;(try simp (disch:=omega) only[go_sem,Nat.reduceBEq]);(refine hK _ _ ?_;clear hK K)|refine st rfl ?_|refine sc rfl ?_|refine nl ?_|exact z'j T (z'a _) ⟨rfl,rfl⟩|with_reducible refine z's (fun hc=>?_) (fun hc=>?_)<;>(try simp only[decide_eq_true_eq,decide_eq_false_iff_not,z'u]at hc)<;>(try(exfalso;omega))
 have hat:=ZaH (d:=(default:Cf)) hlt
 have cs:=ZiF c (C.getD k default) hc (hC _ (w'w hlt))
 cases h:x'3 c (C.getD k default)with
 |true=>
  rw[h]at cs
  rw[Zit (by rw[hat, ←Zhb.1 h]) hs]
  repeat' first|refine vs T rfl fun K hK=>?_;(try simp (disch:=omega) only[go_sem,Nat.reduceBEq,Nat.reduceAdd,Nat.reduceLeDiff,v'M,z'o]);(first|refine hK _ _ ?_;clear hK K|intro bq hbq;(try simp only[HB]at hbq);refine hK _ _ ?_;clear hK K|refine⟨?_,hK _ _ ?_⟩<;>clear hK K;focus(try omega)|refine Op1.callp rfl rfl (cs) rfl ?_;refine hK _ _ ?_;clear hK K)|refine st rfl ?_|refine sc rfl ?_|refine nl ?_|exact z'j T (z'a _) ⟨rfl,rfl⟩|with_reducible refine z's (fun hc=>?_) (fun hc=>?_)<;>(try simp only[decide_eq_true_eq,decide_eq_false_iff_not,z'u]at hc)<;>(try(exfalso;omega))
 |false=>
  rw[h]at cs
  repeat' first|refine vs T rfl fun K hK=>?_;(try simp (disch:=omega) only[go_sem,Nat.reduceBEq,Nat.reduceAdd,Nat.reduceLeDiff,v'M,z'o,w64]);(first|refine hK _ _ ?_;clear hK K|intro bq hbq;(try simp only[HB]at hbq);refine hK _ _ ?_;clear hK K|refine⟨?_,hK _ _ ?_⟩<;>clear hK K;focus(try omega)|refine Op1.callp rfl rfl (cs) rfl ?_;refine hK _ _ ?_;clear hK K)|refine st rfl ?_|refine sc rfl ?_|refine nl ?_|with_reducible refine z's (fun hc=>?_) (fun hc=>?_)<;>(try simp only[decide_eq_true_eq,decide_eq_false_iff_not,z'u]at hc)<;>(try(exfalso;omega))
  refine⟨⟨k+1,by omega,fun i hi=>?_⟩,Weak.subH (z'a _) ?_,by simp only[];omega⟩
  ·rcases z'g i k with h'|h'
   ·exact hs i h'
   ·obtain rfl:i=k:=by omega
    rw[hat]
    rintro e
    rw[y'n e,ZbS]at h
    cases h
  ·simp[sub,upd]
theorem Zgi (C:List Cf) (g:Cs) (P B:List Int) (hl:C.length≤1000000) (hC: ∀c,c∈C→OkC c) (hg:OkG g) (hP:P.length≤1000000) (hB:B.length≤1000000):Pure Tryz.prog 39 [.agg (spC C g P B),.agg (spC C g P B)] (bD true):=by
 have c1:=Zk4 g g hg hg
 rw[show Ze1 g g=true by simp[Ze1]]at c1
 have c2:=Zbb P P hP hP
 have c3:=Zbb B B hB hB
 rw[decide_eq_true rfl]at c2 c3
 refine Fun.of T [.tmp 4] Tryz.func39 rfl Tryz.ntmps39 Tryz.results39 rfl (by kernel_rfl) ?_
 repeat' first|refine vb (t:=34) rfl rfl rfl rfl ?_|refine vs T rfl fun K hK=>?_;(try simp (disch:=omega) only[go_sem,Nat.reduceBEq,Nat.reduceAdd,Nat.reduceLeDiff,y'M,z'i,bne_self_eq_false]);(first|refine hK _ _ ?_;clear hK K|refine Op1.callp rfl rfl (c1) rfl ?_;refine hK _ _ ?_;clear hK K|refine Op1.callp rfl rfl (c2) rfl ?_;refine hK _ _ ?_;clear hK K|refine Op1.callp rfl rfl (c3) rfl ?_;refine hK _ _ ?_;clear hK K)|refine st rfl ?_|refine sc rfl ?_|refine nl ?_|refine gs rfl rfl ?_
 refine VC.loop {k:Nat//k≤C.length} (fun p=>⟨z'M [(2,.pt (spC C g P B)),(3,.pt (spC C g P B)),(5,iD (p.1:Nat))],[]⟩) (fun p=>C.length-p.1) ⟨0,by omega⟩ ?_ ?_
 ·refine Weak.sub ?_
  simp[sub,upd]
 rintro⟨k,hk⟩
 dsimp only
 rcases z'g k C.length with hlt|hge
 case inr=>
  obtain rfl:k=C.length:=by omega
  repeat' first|refine vs T rfl fun K hK=>?_;(try simp (disch:=omega) only[go_sem,Nat.reduceBEq,y'M]);(refine hK _ _ ?_;clear hK K)|refine st rfl ?_|refine sc rfl ?_|refine nl ?_|exact z'j T (z'a _) ⟨rfl,rfl⟩|with_reducible refine z's (fun hc=>?_) (fun hc=>?_)<;>(try simp only[decide_eq_true_eq,decide_eq_false_iff_not,z'u]at hc)<;>(try(exfalso;omega))
 have hO:=hC _ (w'w (d:=(default:Cf)) hlt)
 have cs:=ZfZ (C.getD k default) (C.getD k default) hO hO
 rw[ZbS]at cs
 repeat' first|refine dr (id:=6) T 10 (by kernel_rfl) ?_|refine gn ?_|(first|apply VCg.step T rfl rfl|apply exF);focus((try simp (disch:=omega) only[go_sem,Nat.reduceBEq,Nat.reduceAdd,Nat.reduceLeDiff,v'M,z'o]);(first|exact rfl|refine⟨?_,rfl⟩;try omega))|refine vs T rfl fun K hK=>?_;(try simp (disch:=omega) only[go_sem,Nat.reduceBEq,y'M,w64,z'i]);(first|refine hK _ _ ?_;clear hK K|refine Op1.callp rfl rfl (cs) rfl ?_;refine hK _ _ ?_;clear hK K)|refine st rfl ?_|refine sc rfl ?_|refine nl ?_|with_reducible refine z's (fun hc=>?_) (fun hc=>?_)<;>(try simp only[decide_eq_true_eq,decide_eq_false_iff_not,z'u]at hc)<;>(try(exfalso;omega))
 refine⟨⟨k+1,by omega⟩,Weak.sub ?_,by simp only[];omega⟩
 simp[sub,upd]
def plK (p:Cf→Bool) (C:List Cf) (k:Nat):List Int:=((List.range k).filter fun i=>p (C.getD i default)).map fun(i:Nat)=>(i:Int)
theorem ZfK (p:Cf→Bool) (C:List Cf) (k:Nat):plK p C (k+1)=plK p C k++(match p (C.getD k default)with|true=>[(k:Int)]|false=>[]):=by
 unfold plK
 rw[y'p,y'r,z'F]
 congr 1
 rw[w'F,List.filter_nil]
 cases p (C.getD k default)<;>rfl
theorem Zb6 (p:Cf→Bool) (C:List Cf) (k:Nat):(plK p C k).length≤k:=by
 unfold plK
 rw[z'p]
 exact y'H (List.length_filter_le _ _) (by rw[List.length_range];exact z'v _)
theorem Zgt (C:List Cf) (g:Cs) (P B:List Int) (hl:C.length≤1000000) (f:FuncId) (us:Array Value) (Hc:Heap) (p:Cf→Bool) (hso: ∀c,c∈C→Fun Tryz.prog f ([.agg (cfC c)]++us.toList.map D.is) Hc false (fun d H'=>d=bD (p c)∧H'=Hc)):
  Fun Tryz.prog 91 [.agg (spC C g P B),.is (.func (.func f) #[] us)] Hc false (fun d H'=> ∃x:G,gOk x (plK p C C.length).length∧d= .gs x (plK p C C.length).length∧H'=shp x 3 1 ((plK p C C.length).map iD) Hc):=by
 refine Fun.of T [.tmp 4] Tryz.func91 rfl Tryz.ntmps91 Tryz.results91 rfl (by kernel_rfl) ?_
 repeat' first|refine vb (t:=34) rfl rfl rfl rfl ?_|refine vs T rfl fun K hK=>?_;(try simp (disch:=omega) only[go_sem,Nat.reduceBEq,y'M]);(refine hK _ _ ?_;clear hK K)|refine st rfl ?_|refine nl ?_
 refine VC.loop {x:Nat×G//x.1≤C.length∧gOk x.2 (plK p C x.1).length} (fun x=>⟨z'M [(1,.is (.func (.func f) #[] us)),(5,.gs x.1.2 (plK p C x.1.1).length),(9,.sl false 4 (x'I C)),(10,iD (C.length:Nat)),(11,iD (x.1.1:Nat))],shp x.1.2 3 1 ((plK p C x.1.1).map iD) Hc⟩) (fun x=>C.length-x.1.1) ⟨(0,none),z'6 _,rfl⟩ ?_ ?_
 ·refine Weak.sub ?_
  simp[sub,upd,y'M,plK]
 rintro⟨⟨k,x⟩,hk,hx⟩
 dsimp only at hk hx⊢
 rcases z'g k C.length with hlt|hge
 case inr=>
  obtain rfl:k=C.length:=by omega
  repeat' first|refine vs T rfl fun K hK=>?_;(try simp (disch:=omega) only[go_sem,Nat.reduceBEq]);(refine hK _ _ ?_;clear hK K)|refine st rfl ?_|refine sc rfl ?_|refine nl ?_|with_reducible refine z's (fun hc=>?_) (fun hc=>?_)<;>(try simp only[decide_eq_true_eq,decide_eq_false_iff_not,z'u]at hc)<;>(try(exfalso;omega))
  exact z'j T (z'm _) ⟨x,hx,rfl,rfl⟩
 have hcc:=hso _ (w'w (d:=(default:Cf)) hlt)
 have hlen:=Zb6 p C k
 repeat' first|refine vs T rfl fun K hK=>?_;(try simp (disch:=omega) only[go_sem,Nat.reduceBEq,Nat.reduceAdd,Nat.reduceLeDiff,v'M,z'o]);(first|refine hK _ _ ?_;clear hK K|intro bq hbq;(try simp only[HB]at hbq);refine hK _ _ ?_;clear hK K|refine⟨?_,hK _ _ ?_⟩<;>clear hK K;focus(try omega)|skip)|refine st rfl ?_|refine sc rfl ?_|refine nl ?_|with_reducible refine z's (fun hc=>?_) (fun hc=>?_)<;>(try simp only[decide_eq_true_eq,decide_eq_false_iff_not,z'u]at hc)<;>(try(exfalso;omega))
 refine Op1.callG (Hp:=Hc) (Hr:=(bq,.cells 43 4 (cfC (C.getD k default)))::shp x 3 1 ((plK p C k).map iD) []) rfl rfl rfl hcc (y'e fun a=>?_) (fun d H' h=>?_)
 ·simp only[y'l,z'2,y'a,y'c,cfC]
  omega
 obtain⟨e1,e2⟩:=h
 rw[e1,e2]
 refine hK _ _ ?_
 clear hK K e1 e2 d H'
 refine vo ?_
 refine VCo.weak (Weak.perm (H':=(bq,.cells 43 4 (cfC (C.getD k default)))::shp x 3 1 ((plK p C k).map iD) Hc) (y'e fun a=>?_)) ?_
 ·simp only[y'l,z'2,y'a,y'c]
  omega
 refine ov ?_
 have hs:=ZfK p C k
 cases hp:p (C.getD k default)
 all_goals
  rw[hp]at hs
  simp only at hs
  repeat' first|refine vs T rfl fun K hK=>?_;(try simp (disch:=omega) only[go_sem,Nat.reduceBEq,Nat.reduceMul,Nat.reduceLeDiff,w64]);(first|refine hK _ _ ?_;clear hK K|refine⟨_,_,_,_,(by repeat (first|exact Sp.here|apply Sp.cons)),?_,(by exact⟨rfl,rfl⟩),⟨by decide,?_⟩,fun g' hg'=>hK _ _ ?_⟩<;>clear hK K)|refine st rfl ?_|refine sc rfl ?_|refine nl ?_
 ·refine⟨⟨(k+1,x),hlt,by rw[hs,z'r];exact hx⟩,y'S ?_ ?_,by dsimp only;omega⟩
  ·dsimp only
   rw[hs,z'r]
  ·simp[sub,upd,hs]
 ·rw[z'p,z'w]
 ·omega
 ·refine⟨⟨(k+1,g'),hlt,by rw[hs,z'k];exact hg'⟩,y'S ?_ ?_,by dsimp only;omega⟩
  ·dsimp only
   rw[hs,z'F]
   rfl
  ·simp[sub,upd,hs]
theorem ZnT (u:Un) (hu:OkU u) (c:Cf) (hc:OkC c) (b:Nat):Fun Tryz.prog 92 [.agg (cfC c),pD b] [(b,.cells 25 4 (unC u))] false (fun d H'=>d=bD (x'8 u c)∧H'=[(b,.cells 25 4 (unC u))]):=by
 have cf:=Zh0 u c (by have:=hu.cod;omega) (by have:=hc.bufs;omega)
 refine Fun.of T [.tmp 3] Tryz.func92 rfl Tryz.ntmps92 Tryz.results92 rfl (by kernel_rfl) ?_
 repeat' first|refine vb (t:=43) rfl rfl rfl rfl ?_|refine vs T rfl fun K hK=>?_;(try simp (disch:=omega) only[go_sem,Nat.reduceBEq,Nat.reduceAdd,Nat.reduceLeDiff]);(first|refine hK _ _ ?_;clear hK K|refine Op1.callp rfl rfl (cf) rfl ?_;refine hK _ _ ?_;clear hK K)|refine st rfl ?_|refine nl ?_
 exact z'j T (z'm _) ⟨rfl,rfl⟩
theorem ZmM (u:Un) (c:Cf) (m r:Int) (h:Rt u c m r) (b b6 b7:Nat) (n1: ¬b=b6) (n2: ¬b=b7) (n3: ¬b6=b7):Fun Tryz.prog 95 [.agg (cfC c),pD b,pD b6,pD b7] [(b7,.cells 3 1 [iD r]),(b6,.cells 3 1 [iD m]),(b,.cells 25 4 (unC u))] false (fun d H'=>d=bD (v'R u c m r)∧H'=[(b7,.cells 3 1 [iD r]),(b6,.cells 3 1 [iD m]),(b,.cells 25 4 (unC u))]):=by
 have cd:=ZoU h
 refine Fun.of T [.tmp 5] Tryz.func95 rfl Tryz.ntmps95 Tryz.results95 rfl (by kernel_rfl) ?_
 repeat' first|refine vb (t:=43) rfl rfl rfl rfl ?_|refine vs T rfl fun K hK=>?_;(try simp (disch:=omega) only[go_sem,Nat.reduceBEq,Nat.reduceAdd,Nat.reduceLeDiff]);(first|refine hK _ _ ?_;clear hK K|refine Op1.callp rfl rfl (cd) rfl ?_;refine hK _ _ ?_;clear hK K)|refine st rfl ?_|refine nl ?_
 exact z'j T (z'm _) ⟨rfl,rfl⟩
theorem Zhv (u:Un) (hu:OkU u) (C:List Cf) (g:Cs) (P B:List Int) (hl:C.length≤1000000) (hC: ∀c,c∈C→OkC c):Pure Tryz.prog 46 [.agg (unC u),.agg (spC C g P B)] (z'S (plK (x'8 u) C C.length)):=by
 refine Fun.fz ?_
 refine Fun.of T [.tmp 4] Tryz.func46 rfl Tryz.ntmps46 Tryz.results46 rfl (by kernel_rfl) ?_
 repeat' first|refine vb (t:=34) rfl rfl rfl rfl ?_|refine vs T rfl fun K hK=>?_;(try simp (disch:=omega) only[go_sem,Nat.reduceBEq,Nat.reduceAdd,Nat.reduceLeDiff]);(first|refine hK _ _ ?_;clear hK K|intro bq hbq;(try simp only[HB]at hbq);refine hK _ _ ?_;clear hK K|skip)|refine st rfl ?_|refine nl ?_
 refine ZfL (cs:=[.tmp 2]) (us:=[.pointer (some ⟨bq,0,none⟩)]) rfl rfl ?_
 refine hK _ _ ?_
 clear hK K
 repeat' (refine vs T rfl fun K hK=>?_;(try simp (disch:=omega) only[go_sem]))
 refine Op1.callG (Hr:=[]) rfl rfl rfl (Zgt C g P B hl 92 #[.pointer (some ⟨bq,0,none⟩)] [(bq,.cells 25 4 (unC u))] (x'8 u) (fun c hc=>ZnT u hu c (hC c hc) bq)) (by rw[z'r]) (fun d H' h=>?_)
 obtain⟨x,hx,rfl,rfl⟩:=h
 refine hK _ _ ?_
 clear hK K
 rw[z'r]
 repeat' first|refine vs T rfl fun K hK=>?_;(try simp (disch:=omega) only[go_sem,Nat.reduceBEq]);(refine hK _ _ ?_;clear hK K)|refine st rfl ?_|refine nl ?_
 exact z'j T (z'm _) (x'4 (e:=3) hx fun b c e=>by subst e;exact x'k)
theorem Ziv (u:Un) (m r:Int) (C:List Cf) (g:Cs) (P B:List Int) (hl:C.length≤1000000) (hC: ∀c,c∈C→Rt u c m r):Pure Tryz.prog 48 [.agg (unC u),.agg (spC C g P B),iD m,iD r] (z'S (plK (fun c=>v'R u c m r) C C.length)):=by
 refine Fun.fz ?_
 refine Fun.of T [.tmp 8] Tryz.func48 rfl Tryz.ntmps48 Tryz.results48 rfl (by kernel_rfl) ?_
 repeat' first|refine vb (t:=34) rfl rfl rfl rfl ?_|refine vs T rfl fun K hK=>?_;(try simp (disch:=omega) only[go_sem,Nat.reduceBEq,Nat.reduceAdd,Nat.reduceLeDiff]);(first|refine hK _ _ ?_;clear hK K|intro bq hbq;(try simp only[HB]at hbq);refine hK _ _ ?_;clear hK K|skip)|refine st rfl ?_|refine nl ?_
 rename_i b4 _ b6 h6
 have n1: ¬b4=b6:=fun e=>h6 e.symm
 have n2: ¬b4=bq:=fun e=>hbq.2 e.symm
 have n3: ¬b6=bq:=fun e=>hbq.1 e.symm
 refine ZfL (cs:=[.tmp 4,.tmp 6,.tmp 7]) (us:=[.pointer (some ⟨b4,0,none⟩),.pointer (some ⟨b6,0,none⟩),.pointer (some ⟨bq,0,none⟩)]) rfl rfl ?_
 refine hK _ _ ?_
 clear hK K
 repeat' (refine vs T rfl fun K hK=>?_;(try simp (disch:=omega) only[go_sem]))
 refine Op1.callG (Hr:=[]) rfl rfl rfl (Zgt C g P B hl 95 #[.pointer (some ⟨b4,0,none⟩),.pointer (some ⟨b6,0,none⟩),.pointer (some ⟨bq,0,none⟩)] [(bq,.cells 3 1 [iD r]),(b6,.cells 3 1 [iD m]),(b4,.cells 25 4 (unC u))] (fun c=>v'R u c m r) (fun c hc=>ZmM u c m r (hC c hc) b4 b6 bq n1 n2 n3)) (by rw[z'r]) (fun d H' h=>?_)
 obtain⟨x,hx,rfl,rfl⟩:=h
 refine hK _ _ ?_
 clear hK K
 rw[z'r]
 repeat' first|refine vs T rfl fun K hK=>?_;(try simp (disch:=omega) only[go_sem,Nat.reduceBEq]);(refine hK _ _ ?_;clear hK K)|refine st rfl ?_|refine nl ?_
 exact z'j T (z'm _) (x'4 (e:=3) hx fun b c e=>by subst e;exact x'k)
end Go.Proofs.YtomcmfbpmkklmaaGreat
