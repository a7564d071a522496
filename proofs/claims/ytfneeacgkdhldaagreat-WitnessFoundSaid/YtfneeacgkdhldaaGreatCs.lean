/- Plain law: how much two configurations differ. No condition. -/
import Derived.Test.YtfneeacgkdhldaaGreatXe
import Derived.Test.YtfneeacgkdhldaaGreatDd
import Derived.Test.YtfneeacgkdhldaaGreatDf
import Derived.Test.YtfneeacgkdhldaaGreatXg
import Derived.Test.YtfneeacgkdhldaaGreatDg
import Derived.Test.YtfneeacgkdhldaaGreatRa
import Derived.Test.YtfneeacgkdhldaaGreatRj
import Derived.Test.YtfneeacgkdhldaaGreatSa
namespace Go.Proofs.YtfneeacgkdhldaaGreat
set_option maxHeartbeats 16000000
set_option linter.unusedSimpArgs false
set_option linter.unusedVariables false
set_option maxRecDepth 20000
open Go Go.Proofs Go.Vc
section
variable {α : Type} [DecidableEq α]
end
theorem Zpj {e eb:Nat} {ea full:Bool} {ez:List Value} {l:List En} {k:IntKind} {n:Int} {K:D→Prop}:
  cIndexAddr (.slice e 2 eb ea ez) (.sl full 2 (eRs l)) (.is (.int k n)) K=((0≤n∧n<l.length)∧K (.pt (eR (l.getD n.toNat (0,0))))):=Zbm eR (0,0)
theorem ZnR {e eb:Nat} {ea full:Bool} {ez:List Value} {l:List (List Int)} {k:IntKind} {n:Int} {K:D→Prop}:
  cIndexAddr (.slice e 1 eb ea ez) (.sl full 1 (y'V l)) (.is (.int k n)) K=((0≤n∧n<l.length)∧K (.pt [z'C (l.getD n.toNat [])])):=Zbm (fun r=>[z'C r]) []
theorem ZnQ {e eb:Nat} {ea full:Bool} {ez:List Value} {l:List (List En)} {k:IntKind} {n:Int} {K:D→Prop}:
  cIndexAddr (.slice e 1 eb ea ez) (.sl full 1 (y'Y l)) (.is (.int k n)) K=((0≤n∧n<l.length)∧K (.pt [buf (l.getD n.toNat [])])):=Zbm (fun r=>[buf r]) []
theorem Zqi (x y:En):EqS Tryz.prog 114 [.int .i64 x.1,.int .i64 x.2] [.int .i64 y.1,.int .i64 y.2] (decide (x=y)):=by
 refine⟨by kernel_rfl,fun w=>?_⟩
 obtain⟨a,b⟩:=x
 obtain⟨a',b'⟩:=y
 have u3:=Tryz.underlying3
 have a3:=Tryz.isAgg3
 have z3:=Tryz.sizeOf3
 have hS:Tryz.prog.underlying 114=some (.struct (Tryz.prog.fieldsOf 114)):=by kernel_rfl
 have hp:Tryz.prog.stoodInHeld 114=false:=by kernel_rfl
 rw[show(10000:Nat)=9999+1 from rfl,run_equalIn_agg w 9999 114 _ _ hS hp]
 simp only[Program.fieldsOf,Tryz.underlying114]
 go_simp
 by_cases h1:a=a'<;>by_cases h2:b=b'<;>simp[h1,h2]
attribute [local irreducible] y'5 VCg VCw VCx
abbrev ZfZ (l:List (List Int)):D:= .sl false 1 (y'V l)
abbrev Zfv (l:List (List En)):D:= .sl false 1 (y'Y l)
theorem ZfW {α:Type} {l:List (List α)} (h: ∀r,r∈l→r.length≤1000000) (k:Nat):(l.getD k []).length≤1000000:=by
 rw[z'e]
 cases hk:l[k]? with
 |none=>exact z'M _
 |some r=>exact h r (z'h hk)
theorem Zgb (a b:List (Int)) (ha:a.length≤1000000) (hb:b.length≤1000000):Pure Tryz.prog 59 [z'C a,z'C b] (bD (decide (a=b))):=by
 refine Fun.of T [.tmp 4] Tryz.func59 rfl Tryz.ntmps59 Tryz.results59 rfl (by kernel_rfl) ?_
 repeat' first|refine vs T rfl fun K hK=>?_;(try simp (disch:=omega) only[go_sem,Nat.reduceBEq,z'k]);(refine hK _ _ ?_;clear hK K)|refine st rfl ?_|refine sc rfl ?_|refine nl ?_|refine z'n T (z'a _) ?_;(try simp only[upd,Nat.reduceBEq,cond_true,cond_false,and_true])|with_reducible refine z'j (fun hc=>?_) (fun hc=>?_)<;>(try simp only[bne_iff_ne,bne_eq_false_iff_eq,ne_eq]at hc)
 ·exact congrArg bD (decide_eq_false fun h=>by subst h;omega).symm
 refine VC.loop {k:Nat//k≤a.length∧ ∀i,i<k→a.getD i 0=b.getD i 0} (fun p=>⟨z'J [(0,z'C a),(1,z'C b),(11,z'C a),(12,iD (a.length:Nat)),(13,iD (p.1:Nat))],[]⟩) (fun p=>a.length-p.1) ⟨0,by omega,fun i hi=>by omega⟩ ?_ ?_
 ·refine Weak.sub ?_
  simp[sub,upd,z'k]
 rintro⟨k,hk,hs⟩
 dsimp only
 repeat' first|refine dr (id:=6) T 8 (by kernel_rfl) ?_|refine gn ?_|apply VCg.step T rfl rfl;focus((try simp (disch:=omega) only[go_sem,Nat.reduceBEq,y'w,z'f]);(first|exact rfl|refine⟨?_,rfl⟩;try omega))|refine vs T rfl fun K hK=>?_;(try simp (disch:=omega) only[go_sem,Nat.reduceBEq,w64]);(refine hK _ _ ?_;clear hK K)|refine st rfl ?_|refine sc rfl ?_|refine nl ?_|refine z'n T (z'a _) ?_;(try simp only[upd,Nat.reduceBEq,cond_true,cond_false,and_true])|with_reducible refine z'j (fun hc=>?_) (fun hc=>?_)<;>(try simp only[decide_eq_true_eq,decide_eq_false_iff_not,bne_iff_ne,bne_eq_false_iff_eq,ne_eq,z'm]at hc)
 ·exact congrArg bD (decide_eq_false fun h=>by subst h;simp_all).symm
 ·refine⟨⟨k+1,by omega,Zhd hs (by simp_all)⟩,Weak.sub ?_,by simp only[];omega⟩
  simp[sub,upd]
 ·exact congrArg bD (decide_eq_true (Zci (by omega) fun i hi=>hs i (by omega))).symm
theorem Znz (a b:List (En)) (ha:a.length≤1000000) (hb:b.length≤1000000):Pure Tryz.prog 95 [buf a,buf b] (bD (decide (a=b))):=by
 refine Fun.of T [.tmp 4] Tryz.func95 rfl Tryz.ntmps95 Tryz.results95 rfl (by kernel_rfl) ?_
 repeat' first|refine vs T rfl fun K hK=>?_;(try simp (disch:=omega) only[go_sem,Nat.reduceBEq,z'A]);(refine hK _ _ ?_;clear hK K)|refine st rfl ?_|refine sc rfl ?_|refine nl ?_|refine z'n T (z'a _) ?_;(try simp only[upd,Nat.reduceBEq,cond_true,cond_false,and_true])|with_reducible refine z'j (fun hc=>?_) (fun hc=>?_)<;>(try simp only[bne_iff_ne,bne_eq_false_iff_eq,ne_eq]at hc)
 ·exact congrArg bD (decide_eq_false fun h=>by subst h;omega).symm
 refine VC.loop {k:Nat//k≤a.length∧ ∀i,i<k→a.getD i (0,0)=b.getD i (0,0)} (fun p=>⟨z'J [(0,buf a),(1,buf b),(11,buf a),(12,iD (a.length:Nat)),(13,iD (p.1:Nat))],[]⟩) (fun p=>a.length-p.1) ⟨0,by omega,fun i hi=>by omega⟩ ?_ ?_
 ·refine Weak.sub ?_
  simp[sub,upd,z'A]
 rintro⟨k,hk,hs⟩
 dsimp only
 repeat' first|refine dr (id:=6) T 8 (by kernel_rfl) ?_|refine gn ?_|apply VCg.step T rfl rfl;focus((try simp (disch:=omega) only[go_sem,Nat.reduceBEq,Nat.reduceAdd,Nat.reduceLeDiff,Zpj,eR,z'f]);(first|exact rfl|refine⟨?_,rfl⟩;try omega))|refine vs T rfl fun K hK=>?_;(try simp (disch:=omega) only[go_sem,Nat.reduceBEq,w64]);(first|refine hK _ _ ?_;clear hK K|refine Op1.eqS rfl (Zqi _ _) rfl rfl rfl ?_;refine hK _ _ ?_;clear hK K)|refine st rfl ?_|refine sc rfl ?_|refine nl ?_|refine z'n T (z'a _) ?_;(try simp only[upd,Nat.reduceBEq,cond_true,cond_false,and_true])|with_reducible refine z'j (fun hc=>?_) (fun hc=>?_)<;>(try simp only[decide_eq_true_eq,decide_eq_false_iff_not,z'N,z'R,z'm]at hc)
 ·exact congrArg bD (decide_eq_false fun h=>by subst h;simp_all).symm
 ·refine⟨⟨k+1,by omega,Zhd hs (by simp_all)⟩,Weak.sub ?_,by simp only[];omega⟩
  simp[sub,upd]
 ·exact congrArg bD (decide_eq_true (Zci (by omega) fun i hi=>hs i (by omega))).symm
theorem Zny (a b:List (List Int)) (ha:a.length≤1000000) (hb:b.length≤1000000) (hr: ∀r,r∈a→r.length≤1000000) (hs_: ∀r,r∈b→r.length≤1000000):Pure Tryz.prog 60 [ZfZ a,ZfZ b] (bD (decide (a=b))):=by
 refine Fun.of T [.tmp 4] Tryz.func60 rfl Tryz.ntmps60 Tryz.results60 rfl (by kernel_rfl) ?_
 repeat' first|refine vs T rfl fun K hK=>?_;(try simp (disch:=omega) only[go_sem,Nat.reduceBEq,y'm]);(refine hK _ _ ?_;clear hK K)|refine st rfl ?_|refine sc rfl ?_|refine nl ?_|refine z'n T (z'a _) ?_;(try simp only[upd,Nat.reduceBEq,cond_true,cond_false,and_true])|with_reducible refine z'j (fun hc=>?_) (fun hc=>?_)<;>(try simp only[bne_iff_ne,bne_eq_false_iff_eq,ne_eq]at hc)
 ·exact congrArg bD (decide_eq_false fun h=>by subst h;omega).symm
 refine VC.loop {k:Nat//k≤a.length∧ ∀i,i<k→a.getD i []=b.getD i []} (fun p=>⟨z'J [(0,ZfZ a),(1,ZfZ b),(11,ZfZ a),(12,iD (a.length:Nat)),(13,iD (p.1:Nat))],[]⟩) (fun p=>a.length-p.1) ⟨0,by omega,fun i hi=>by omega⟩ ?_ ?_
 ·refine Weak.sub ?_
  simp[sub,upd,y'm]
 rintro⟨k,hk,hs⟩
 dsimp only
 have cs:=Zgb (a.getD k []) (b.getD k []) (ZfW hr k) (ZfW hs_ k)
 repeat' first|refine dr (id:=6) T 8 (by kernel_rfl) ?_|refine gn ?_|apply VCg.step T rfl rfl;focus((try simp (disch:=omega) only[go_sem,Nat.reduceBEq,ZnR,z'f]);(first|exact rfl|refine⟨?_,rfl⟩;try omega))|refine vs T rfl fun K hK=>?_;(try simp (disch:=omega) only[go_sem,Nat.reduceBEq,w64]);(first|refine hK _ _ ?_;clear hK K|refine Op1.callp rfl rfl (cs) rfl ?_;refine hK _ _ ?_;clear hK K)|refine st rfl ?_|refine sc rfl ?_|refine nl ?_|refine z'n T (z'a _) ?_;(try simp only[upd,Nat.reduceBEq,cond_true,cond_false,and_true])|with_reducible refine z'j (fun hc=>?_) (fun hc=>?_)<;>(try simp only[decide_eq_true_eq,decide_eq_false_iff_not,z'N,z'R,z'm]at hc)
 ·exact congrArg bD (decide_eq_false fun h=>by subst h;simp_all).symm
 ·refine⟨⟨k+1,by omega,Zhd hs (by simp_all)⟩,Weak.sub ?_,by simp only[];omega⟩
  simp[sub,upd]
 ·exact congrArg bD (decide_eq_true (Zci (by omega) fun i hi=>hs i (by omega))).symm
theorem Znx (a b:List (List En)) (ha:a.length≤1000000) (hb:b.length≤1000000) (hr: ∀r,r∈a→r.length≤1000000) (hs_: ∀r,r∈b→r.length≤1000000):Pure Tryz.prog 61 [Zfv a,Zfv b] (bD (decide (a=b))):=by
 refine Fun.of T [.tmp 4] Tryz.func61 rfl Tryz.ntmps61 Tryz.results61 rfl (by kernel_rfl) ?_
 repeat' first|refine vs T rfl fun K hK=>?_;(try simp (disch:=omega) only[go_sem,Nat.reduceBEq,z'Z]);(refine hK _ _ ?_;clear hK K)|refine st rfl ?_|refine sc rfl ?_|refine nl ?_|refine z'n T (z'a _) ?_;(try simp only[upd,Nat.reduceBEq,cond_true,cond_false,and_true])|with_reducible refine z'j (fun hc=>?_) (fun hc=>?_)<;>(try simp only[bne_iff_ne,bne_eq_false_iff_eq,ne_eq]at hc)
 ·exact congrArg bD (decide_eq_false fun h=>by subst h;omega).symm
 refine VC.loop {k:Nat//k≤a.length∧ ∀i,i<k→a.getD i []=b.getD i []} (fun p=>⟨z'J [(0,Zfv a),(1,Zfv b),(11,Zfv a),(12,iD (a.length:Nat)),(13,iD (p.1:Nat))],[]⟩) (fun p=>a.length-p.1) ⟨0,by omega,fun i hi=>by omega⟩ ?_ ?_
 ·refine Weak.sub ?_
  simp[sub,upd,z'Z]
 rintro⟨k,hk,hs⟩
 dsimp only
 have cs:=Znz (a.getD k []) (b.getD k []) (ZfW hr k) (ZfW hs_ k)
 repeat' first|refine dr (id:=6) T 8 (by kernel_rfl) ?_|refine gn ?_|apply VCg.step T rfl rfl;focus((try simp (disch:=omega) only[go_sem,Nat.reduceBEq,ZnQ,z'f]);(first|exact rfl|refine⟨?_,rfl⟩;try omega))|refine vs T rfl fun K hK=>?_;(try simp (disch:=omega) only[go_sem,Nat.reduceBEq,w64]);(first|refine hK _ _ ?_;clear hK K|refine Op1.callp rfl rfl (cs) rfl ?_;refine hK _ _ ?_;clear hK K)|refine st rfl ?_|refine sc rfl ?_|refine nl ?_|refine z'n T (z'a _) ?_;(try simp only[upd,Nat.reduceBEq,cond_true,cond_false,and_true])|with_reducible refine z'j (fun hc=>?_) (fun hc=>?_)<;>(try simp only[decide_eq_true_eq,decide_eq_false_iff_not,z'N,z'R,z'm]at hc)
 ·exact congrArg bD (decide_eq_false fun h=>by subst h;simp_all).symm
 ·refine⟨⟨k+1,by omega,Zhd hs (by simp_all)⟩,Weak.sub ?_,by simp only[];omega⟩
  simp[sub,upd]
 ·exact congrArg bD (decide_eq_true (Zci (by omega) fun i hi=>hs i (by omega))).symm
end Go.Proofs.YtfneeacgkdhldaaGreat
