/- Contracts: what is so of configurations: the program. No condition. -/
import Derived.Test.YthlkpnjjkgmlkaaGreatMm
import Derived.Test.YthlkpnjjkgmlkaaGreatYe
import Derived.Test.YthlkpnjjkgmlkaaGreatMb
import Derived.Test.YthlkpnjjkgmlkaaGreatMc
import Derived.Test.YthlkpnjjkgmlkaaGreatMd
import Derived.Test.YthlkpnjjkgmlkaaGreatMe
import Derived.Test.YthlkpnjjkgmlkaaGreatMf
namespace Go.Proofs.YthlkpnjjkgmlkaaGreat
set_option maxHeartbeats 16000000
set_option linter.unusedSimpArgs false
set_option linter.unusedVariables false
set_option maxRecDepth 20000
open Go Go.Proofs Go.Vc
attribute [local irreducible] x'v VCg VCw VCx
theorem Zlw (u:Un) (l:List Opc) (hl:l.length≤1000) (c:Cf) (hc:OkC c):Pure Tryz.prog 27 [.agg (unC u),z'S l,.agg (cfC c)] (bD (hoB u l c)):=by
 have c1:=Fun.argsW (args:=[z'S l,iD u.md,.gs none 0,.sl false 1 (w'y c.regs),y'r c.mem]) (ZrS l u.md [] c.regs c.mem (Zr6 hl hc)) (z'u (Fz.refl _ _) (z'u (Fz.refl _ _) (z'u z'1 (FzL.refl _ _))))
 refine Fun.of T [.tmp 6] Tryz.func27 rfl Tryz.ntmps27 Tryz.results27 rfl (by kernel_rfl) ?_
 repeat' first|refine vb (t:=32) rfl rfl rfl rfl ?_|refine vb (t:=69) rfl rfl rfl rfl ?_|refine mq2 @valD2.eq_1 c1 ?_|refine z'p T (z'a _) ?_;(try simp only[upd,Nat.reduceBEq,cond_true,cond_false,and_true])|with_reducible refine z'n (fun hc=>?_) (fun hc=>?_)|fail
 all_goals(unfold hoB;rw[hc];rfl)
abbrev Tst:=FuncId×Array Value×(Cf→Bool)
def tsR (x:Tst):List D:=[.is (.func (.func x.1) #[] x.2.1)]
def Zjo (l:List Tst):List (List D):=l.map tsR
def ts0:Tst:=(0, #[],fun _=>true)
theorem ZrO (l:List Tst):(Zjo l).length=l.length:=z'm ..
theorem Zpv {e eb:Nat} {ea full:Bool} {ez:List Value} {l:List Tst} {k:IntKind} {n:Int} {K:D→Prop}:
  cIndexAddr (.slice e 1 eb ea ez) (.sl full 1 (Zjo l)) (.is (.int k n)) K=((0≤n∧n<l.length)∧K (.pt (tsR (l.getD n.toNat ts0)))):=ZaX tsR ts0
def Zch (L:List Tst) (c:Cf):Bool:=L.all fun x=>x.2.2 c
theorem Zmh (C:List Cf) (g:Cs) (P B:List Int) (hl:C.length≤1000000) (fl:Bool) (L:List Tst) (hL:L.length≤1000) (Hc:Heap) (hso: ∀x,x∈L→ ∀c,c∈C→Fun Tryz.prog x.1 ([.agg (cfC c)]++x.2.1.toList.map D.is) Hc false (fun d H'=>d=bD (x.2.2 c)∧H'=Hc)):
  Fun Tryz.prog 73 [.agg (spC C g P B),.sl fl 1 (Zjo L)] Hc false (fun d H'=>d=iD (x'n (Zch L) C)∧H'=Hc):=by
 refine Fun.of T [.tmp 4] Tryz.func73 rfl Tryz.ntmps73 Tryz.results73 rfl (by kernel_rfl) ?_
 repeat' first|refine vb (t:=57) rfl rfl rfl rfl ?_|refine mq1 @w'd ?_|fail
 refine VC.loop {k:Nat//k≤C.length∧ ∀i,i<k→Zch L (C.getD i default)=false} (fun p=>⟨z'T [(1,.sl fl 1 (Zjo L)),(11,.sl false 4 (w't C)),(12,iD (C.length:Nat)),(13,iD (p.1:Nat))],Hc⟩) (fun p=>C.length-p.1) ⟨0,z'A _,fun i hi=>by omega⟩ ?_ ?_
 ·refine Weak.sub ?_
  simp[sub,upd,w'd]
 rintro⟨k,hk,hs⟩
 dsimp only at hk hs⊢
 rcases z'i k C.length with hlt|hge
 case inr=>
  have e1:decide ((k:Int)<(C.length:Int))=false:=decide_eq_false (by omega)
  rw[ZmS fun i hi=>hs i (by omega)]
  repeat' first|refine mq1 @e1 ?_|fail
  exact z'p T (z'v _) ⟨rfl,rfl⟩
 have e1:decide ((k:Int)<(C.length:Int))=true:=decide_eq_true (by omega)
 have hmem:=x'p (d:=(default:Cf)) hlt
 repeat' first|refine mq1 (x'f @Zf6 @ZrO @z'e @e1) ?_|refine mqn fun bq hbq=>?_|refine .wk ?_ ?_;focus(try omega)|fail
 refine VC.loop {j:Nat//j≤L.length} (fun p=>⟨z'T [(1,.sl fl 1 (Zjo L)),(5,iD (k:Nat)),(6,ptB bq),(7,bD (Zch (L.take p.1) (C.getD k default))),(11,.sl false 4 (w't C)),(12,iD (C.length:Nat)),(13,iD (k:Nat)),(18,.sl fl 1 (Zjo L)),(19,iD (L.length:Nat)),(20,iD (p.1:Nat))],(bq,.cells 69 4 (cfC (C.getD k default)))::Hc⟩) (fun p=>L.length-p.1) ⟨0,z'A _⟩ ?_ ?_
 ·refine z'Q rfl ?_
  simp[sub,upd,Zch]
 rintro⟨j,hj⟩
 dsimp only at hj⊢
 rcases z'i j L.length with hlj|hge
 case inr=>
  have e2:decide ((j:Int)<(L.length:Int))=false:=decide_eq_false (by omega)
  obtain rfl:j=L.length:=by omega
  rw[y'g]
  cases hA:Zch L (C.getD k default)with
  |true=>
   rw[Zht hlt hs hA]
   repeat' first|refine mq1 @e2 ?_|fail
   exact z'p T (y'H _ _) ⟨rfl,rfl⟩
  |false=>
   repeat' first|refine mq1 (z'X @e2 @w64) ?_|fail
   refine⟨⟨k+1,by omega,y's hs hA⟩,y'U rfl ?_,by dsimp only;omega⟩
   simp[sub,upd]
 have e2:decide ((j:Int)<(L.length:Int))=true:=decide_eq_true (by omega)
 have hT:Zch (L.take (j+1)) (C.getD k default)=(Zch (L.take j) (C.getD k default)&&(L.getD j ts0).2.2 (C.getD k default)):=by
  unfold Zch
  rw[Zde ts0 hlj,List.all_append]
  simp
 have hcc:=hso _ (x'p (d:=ts0) hlj) _ hmem
 cases hA:Zch (L.take j) (C.getD k default)with
 |false=>
  rw[hA]at hT
  repeat' first|refine mq1 (y'Z @Zpv @tsR.eq_1 @z'e @e2 @w64) ?_|refine .wk ?_ ?_;focus(try omega)|fail
  refine⟨⟨j+1,by omega⟩,z'Q rfl ?_,by dsimp only;omega⟩
  simp[sub,upd,hT, -List.getD_eq_getElem?_getD]
 |true=>
  rw[hA]at hT
  repeat' first|refine vs T rfl fun K hK=>?_;(try simp (disch:=omega) only[go_sem,Nat.reduceBEq,Nat.reduceAdd,Nat.reduceLeDiff,Zpv,tsR,z'e,e2]);(first|refine hK _ _ ?_;clear hK K|refine⟨?_,hK _ _ ?_⟩<;>clear hK K;focus(try omega)|skip)|refine st rfl ?_|refine sc rfl ?_|refine nl ?_|refine gs rfl rfl ?_
  refine Op1.callG (Hp:=Hc) (Hr:=[(bq,.cells 69 4 (cfC (C.getD k default)))]) rfl rfl rfl hcc (y'X fun a=>?_) (fun d H' h=>?_)
  ·simp only[y'z,y'M,y'V,cfC]
   omega
  obtain⟨f1,f2⟩:=h
  rw[f1,f2]
  refine hK _ _ ?_
  clear hK K f1 f2 d H'
  refine vo ?_
  refine VCo.weak (Weak.perm (H':=(bq,.cells 69 4 (cfC (C.getD k default)))::Hc) (y'X fun a=>?_)) ?_
  ·simp only[y'z,y'M,y'V]
   omega
  refine ov ?_
  repeat' first|refine mq1 @w64 ?_|fail
  refine⟨⟨j+1,by omega⟩,z'Q rfl ?_,by dsimp only;omega⟩
  simp[sub,upd,hT, -List.getD_eq_getElem?_getD]
theorem Zpt (u:Un) (l:List Opc) (hl:l.length≤1000) (so:Bool) (c:Cf) (hc:OkC c) (b b7 b9:Nat) (n1: ¬b=b7) (n2: ¬b=b9) (n3: ¬b7=b9):Fun Tryz.prog 70 [.agg (cfC c),ptB b,ptB b7,ptB b9] [(b9,.cells 4 1 [bD so]),(b7,.cells 65 1 [z'S l]),(b,.cells 32 4 (unC u))] false (fun d H'=>d=bD (hoB u l c == so)∧H'=[(b9,.cells 4 1 [bD so]),(b7,.cells 65 1 [z'S l]),(b,.cells 32 4 (unC u))]):=by
 have cd:=Zlw u l hl c hc
 refine Fun.of T [.tmp 5] Tryz.func70 rfl Tryz.ntmps70 Tryz.results70 rfl (by kernel_rfl) ?_
 repeat' first|refine vb (t:=69) rfl rfl rfl rfl ?_|refine dr (id:=1) T 5 (by kernel_rfl) ?_|apply VCg.step T rfl rfl;focus((try simp (disch:=omega) only[go_sem,Nat.reduceBEq,Nat.reduceAdd,Nat.reduceLeDiff]);(first|exact rfl|refine Op1.callp rfl rfl (cd) rfl ?_;exact⟨rfl,rfl⟩))|refine mq0 ?_|fail
 exact z'p T (z'v _) ⟨rfl,rfl⟩
theorem Zrk (u:Un) (hu:OkU u) (so:Bool) (l:List Opc) (c:Cf) (hc:OkC c) (b b7 b9:Nat) (n1: ¬b=b7) (n2: ¬b=b9) (n3: ¬b7=b9):Fun Tryz.prog 71 [.agg (cfC c),ptB b] [(b9,.cells 4 1 [bD so]),(b7,.cells 65 1 [z'S l]),(b,.cells 32 4 (unC u))] false (fun d H'=>d=bD (w'h u c)∧H'=[(b9,.cells 4 1 [bD so]),(b7,.cells 65 1 [z'S l]),(b,.cells 32 4 (unC u))]):=by
 have cf:=Zqw u c (by have:=hu.cod;omega) (by have:=hc.bufs;omega)
 refine Fun.of T [.tmp 3] Tryz.func71 rfl Tryz.ntmps71 Tryz.results71 rfl (by kernel_rfl) ?_
 repeat' first|refine vb (t:=69) rfl rfl rfl rfl ?_|refine mq3 cf ?_|fail
 exact z'p T (z'v _) ⟨rfl,rfl⟩
theorem Zda (u:Un) (hu:OkU u) (C:List Cf) (g:Cs) (P B:List Int) (hl:C.length≤1000000) (hC: ∀c,c∈C→OkC c) (l:List Opc) (hll:l.length≤1000) (fin so:Bool):Pure Tryz.prog 29 [.agg (unC u),.agg (spC C g P B),z'S l,bD fin,bD so] (iD (x'n (soB u l fin so) C)):=by
 refine Fun.of T [.tmp 10] Tryz.func29 rfl Tryz.ntmps29 Tryz.results29 rfl (by kernel_rfl) ?_
 cases fin
 all_goals
  repeat' first|refine vb (t:=57) rfl rfl rfl rfl ?_|refine vs T rfl fun K hK=>?_;(try simp (disch:=omega) only[go_sem,Nat.reduceBEq,Nat.reduceAdd]);(first|refine hK _ _ ?_;clear hK K|intro bq hbq;(try simp only[HB]at hbq);refine hK _ _ ?_;clear hK K|skip)|refine st rfl ?_|refine nl ?_
 all_goals
  rename_i b5 _ b7 h7
  have n1: ¬b5=b7:=fun e=>h7 e.symm
  have n2: ¬b5=bq:=fun e=>hbq.2 e.symm
  have n3: ¬b7=bq:=fun e=>hbq.1 e.symm
  refine ZhK (cs:=[.tmp 5,.tmp 7,.tmp 9]) (us:=[.pointer (some ⟨b5,0,none⟩),.pointer (some ⟨b7,0,none⟩),.pointer (some ⟨bq,0,none⟩)]) rfl rfl ?_
  refine hK _ _ ?_
  clear hK K
  repeat' first|refine vs T rfl fun K hK=>?_;(try simp (disch:=omega) only[go_sem,Nat.reduceBEq]);(first|refine hK _ _ ?_;clear hK K|skip)|refine st rfl ?_|refine nl ?_
  refine ZhK (cs:=[.tmp 5]) (us:=[.pointer (some ⟨b5,0,none⟩)]) rfl rfl ?_
  refine hK _ _ ?_
  clear hK K
  have hS:soB u l true so=Zch [(70, #[.pointer (some ⟨b5,0,none⟩),.pointer (some ⟨b7,0,none⟩),.pointer (some ⟨bq,0,none⟩)],fun c=>hoB u l c == so),(71, #[.pointer (some ⟨b5,0,none⟩)],fun c=>w'h u c)]:=by funext c;simp[soB,Zch]
  have hN:soB u l false so=Zch [(70, #[.pointer (some ⟨b5,0,none⟩),.pointer (some ⟨b7,0,none⟩),.pointer (some ⟨bq,0,none⟩)],fun c=>hoB u l c == so)]:=by funext c;simp[soB,Zch]
  repeat' first|refine vs T rfl fun K hK=>?_;(try simp (disch:=omega) only[go_sem,Nat.reduceBEq,Nat.reduceAdd,Nat.reduceMul,Nat.reduceLeDiff]);(first|refine hK _ _ ?_;clear hK K|skip)|refine st rfl ?_|refine sc rfl ?_|refine nl ?_
 ·refine Op1.callG (Hr:=[]) rfl rfl rfl (Zmh C g P B hl true [(70, #[.pointer (some ⟨b5,0,none⟩),.pointer (some ⟨b7,0,none⟩),.pointer (some ⟨bq,0,none⟩)],fun c=>hoB u l c == so)] (by simp) [(bq,.cells 4 1 [bD so]),(b7,.cells 65 1 [z'S l]),(b5,.cells 32 4 (unC u))] ?_) (by rw[z'I]) (fun d H' h=>?_)
  ·intro x hx c hc
   rcases z'F.1 hx with rfl|hx
   ·exact Zpt u l hll so c (hC c hc) b5 b7 bq n1 n2 n3
   ·cases hx
  rw[←hN]at h
  obtain⟨rfl,rfl⟩:=h
  refine hK _ _ ?_
  clear hK K
  repeat' first|refine mq0 ?_|fail
  exact z'p T (z'a _) ⟨rfl,rfl⟩
 ·refine Op1.callG (Hr:=[]) rfl rfl rfl (Zmh C g P B hl true [(70, #[.pointer (some ⟨b5,0,none⟩),.pointer (some ⟨b7,0,none⟩),.pointer (some ⟨bq,0,none⟩)],fun c=>hoB u l c == so),(71, #[.pointer (some ⟨b5,0,none⟩)],fun c=>w'h u c)] (by simp) [(bq,.cells 4 1 [bD so]),(b7,.cells 65 1 [z'S l]),(b5,.cells 32 4 (unC u))] ?_) (by rw[z'I]) (fun d H' h=>?_)
  ·intro x hx c hc
   rcases z'F.1 hx with rfl|hx
   ·exact Zpt u l hll so c (hC c hc) b5 b7 bq n1 n2 n3
   rcases z'F.1 hx with rfl|hx
   ·exact Zrk u hu so l c (hC c hc) b5 b7 bq n1 n2 n3
   ·cases hx
  rw[←hS]at h
  obtain⟨rfl,rfl⟩:=h
  refine hK _ _ ?_
  clear hK K
  repeat' first|refine mq0 ?_|fail
  exact z'p T (z'a _) ⟨rfl,rfl⟩
theorem Zfy (u:Un) (hu:OkU u) (C:List Cf) (g:Cs) (P B:List Int) (hT:ZcY C.length P B) (hC: ∀c,c∈C→OkC c) (l:List Opc) (hll:l.length≤1000) (kind:Int):Pure Tryz.prog 31 [.agg (unC u),.agg (spC C g P B),iD kind,z'S l] (.agg (rsR (w'j u C P B kind l))):=by
 have c1:=Zda u hu C g P B hT.len hC l hll true false
 have c2:=Zda u hu C g P B hT.len hC l hll true true
 have c3:=Zda u hu C g P B hT.len hC l hll false false
 refine Fun.fz ?_
 refine Fun.of T [.cell 8 76] Tryz.func31 rfl Tryz.ntmps31 Tryz.results31 rfl (by kernel_rfl) ?_
 by_cases hk:kind<1∨kind>3
 ·rw[show w'j u C P B kind l=rs0 by rw[w'j,if_pos hk]]
  have f1:(kind == 1)=false:=beq_eq_false_iff_ne.2 (by omega)
  have f2:(kind == 2)=false:=beq_eq_false_iff_ne.2 (by omega)
  have f3:(kind == 3)=false:=beq_eq_false_iff_ne.2 (by omega)
  repeat' first|refine vb (t:=32) rfl rfl rfl rfl ?_|refine vb (t:=57) rfl rfl rfl rfl ?_|refine mq1 (x'i @f1 @f2 @f3) ?_|refine mqn fun bq hbq=>?_|fail
  refine ZdM T rfl (by(try simp (disch:=omega) only[hget_ne,hget_eq]);rfl) rfl rfl rfl (z'a _) ?_
  exact⟨_,rfl,z'u (Fz.refl _ _) (z'u (Fz.refl _ _) (z'u z'1 x'9))⟩
 have hO:w'j u C P B kind l=⟨decide (0≤x'n (soB u l (decide (kind≠3)) (decide (kind=2))) C) == decide (kind=2),decide (0≤x'n (soB u l (decide (kind≠3)) (decide (kind=2))) C),
   if 0≤x'n (soB u l (decide (kind≠3)) (decide (kind=2))) C then toI C.length P B (x'n (soB u l (decide (kind≠3)) (decide (kind=2))) C)else[]⟩:=by rw[w'j,if_neg hk]
 rw[hO]
 have hk3:kind=1∨kind=2∨kind=3:=by omega
 rcases hk3 with rfl|rfl|rfl
 all_goals
  simp only[ne_eq,Int.reduceEq,not_false_eq_true,not_true_eq_false,decide_true,decide_false]
 ·have hlt:=ZiN (soB u l true false) C
  have ct:=ZoG C g P B hT (x'n (soB u l true false) C)
  generalize x'n (soB u l true false) C=at_ at*
  repeat' first|refine vb (t:=32) rfl rfl rfl rfl ?_|refine vb (t:=57) rfl rfl rfl rfl ?_|refine mq3 (z'X c1 ct) ?_|refine mqn fun bq hbq=>?_|with_reducible refine z'n (fun hc=>?_) (fun hc=>?_)<;>(try simp only[bne_iff_ne,bne_eq_false_iff_eq,ne_eq]at hc)|fail
  ·have h1:decide (0≤at_)=true:=decide_eq_true (by omega)
   have h2:(at_ != -1)=true:=bne_iff_ne.2 hc
   rw[if_pos (by omega),h1]
   rw[h2]
   exact ZdM T rfl (by(try simp (disch:=omega) only[hget_ne,hget_eq]);rfl) rfl rfl rfl (z'a _) (Fz.refl _ _)
  ·have h1:decide (0≤at_)=false:=decide_eq_false (by omega)
   subst hc
   rw[if_neg (by omega),h1]
   exact ZdM T rfl (by(try simp (disch:=omega) only[hget_ne,hget_eq]);rfl) rfl rfl rfl (z'a _) ⟨_,rfl,z'u (Fz.refl _ _) (z'u (Fz.refl _ _) (z'u z'1 x'9))⟩
 ·have hlt:=ZiN (soB u l true true) C
  have ct:=ZoG C g P B hT (x'n (soB u l true true) C)
  generalize x'n (soB u l true true) C=at_ at*
  repeat' first|refine vb (t:=32) rfl rfl rfl rfl ?_|refine vb (t:=57) rfl rfl rfl rfl ?_|refine mq3 (z'X c2 ct) ?_|refine mqn fun bq hbq=>?_|with_reducible refine z'n (fun hc=>?_) (fun hc=>?_)<;>(try simp only[bne_iff_ne,bne_eq_false_iff_eq,ne_eq]at hc)|fail
  ·have h1:decide (0≤at_)=true:=decide_eq_true (by omega)
   have h2:(at_ != -1)=true:=bne_iff_ne.2 hc
   rw[if_pos (by omega),h1]
   rw[h2]
   exact ZdM T rfl (by(try simp (disch:=omega) only[hget_ne,hget_eq]);rfl) rfl rfl rfl (z'a _) (Fz.refl _ _)
  ·have h1:decide (0≤at_)=false:=decide_eq_false (by omega)
   subst hc
   rw[if_neg (by omega),h1]
   exact ZdM T rfl (by(try simp (disch:=omega) only[hget_ne,hget_eq]);rfl) rfl rfl rfl (z'a _) ⟨_,rfl,z'u (Fz.refl _ _) (z'u (Fz.refl _ _) (z'u z'1 x'9))⟩
 ·have hlt:=ZiN (soB u l false false) C
  have ct:=ZoG C g P B hT (x'n (soB u l false false) C)
  generalize x'n (soB u l false false) C=at_ at*
  repeat' first|refine vb (t:=32) rfl rfl rfl rfl ?_|refine vb (t:=57) rfl rfl rfl rfl ?_|refine mq3 (z'X c3 ct) ?_|refine mqn fun bq hbq=>?_|with_reducible refine z'n (fun hc=>?_) (fun hc=>?_)<;>(try simp only[bne_iff_ne,bne_eq_false_iff_eq,ne_eq]at hc)|fail
  ·have h1:decide (0≤at_)=true:=decide_eq_true (by omega)
   have h2:(at_ != -1)=true:=bne_iff_ne.2 hc
   rw[if_pos (by omega),h1]
   rw[h2]
   exact ZdM T rfl (by(try simp (disch:=omega) only[hget_ne,hget_eq]);rfl) rfl rfl rfl (z'a _) (Fz.refl _ _)
  ·have h1:decide (0≤at_)=false:=decide_eq_false (by omega)
   subst hc
   rw[if_neg (by omega),h1]
   exact ZdM T rfl (by(try simp (disch:=omega) only[hget_ne,hget_eq]);rfl) rfl rfl rfl (z'a _) ⟨_,rfl,z'u (Fz.refl _ _) (z'u (Fz.refl _ _) (z'u z'1 x'9))⟩
theorem Zio:Pure Tryz.prog 22 [] (bD true):=by
 refine Fun.of T [.tmp 0] Tryz.func22 rfl Tryz.ntmps22 Tryz.results22 rfl (by kernel_rfl) ?_
 repeat' first|refine dr (id:=7) T 59 (by kernel_rfl) ?_|(first|apply VCg.step T rfl rfl|apply exF);focus((try simp (disch:=omega) only[go_sem,Nat.reduceBEq,Nat.reduceAdd,Nat.reduceMul,Nat.reduceLeDiff,Int.reduceToNat,z'W]);(first|exact rfl|refine⟨?_,rfl⟩;try omega|refine Op1.callp rfl rfl (m_5) rfl ?_;exact⟨rfl,rfl⟩|refine Op1.callp rfl rfl (m_6) rfl ?_;exact⟨rfl,rfl⟩|refine Op1.callp rfl rfl (m_7) rfl ?_;exact⟨rfl,rfl⟩|refine Op1.callp rfl rfl (m_8) rfl ?_;exact⟨rfl,rfl⟩|refine Op1.callp rfl rfl (m_9) rfl ?_;exact⟨rfl,rfl⟩|refine Op1.callp rfl rfl (ZvE) rfl ?_;exact⟨rfl,rfl⟩))|refine VCg.gstep T rfl rfl rfl rfl ?_;try simp only[GB]|refine mq2 (x'f @d_m1.eq_1 @d_m3.eq_1 @d_m5.eq_1 @d_m7.eq_1) (x'V m_0 m_1 m_2 m_3 m_4 ZvF) ?_|refine mqn fun bq hbq=>?_|exact z'p T (z'a _) ⟨rfl,rfl⟩|fail
theorem ZoT {u:Un} {m r b:Int} {S:Spc Cf} (h:ZcZ u m r b=some S) (hb:1≤b) (hb2:b≤1000000):ZcY S.cf.length S.pa S.ag:=by
 obtain⟨I,_,_⟩:=Zhl h (by omega)
 have hl:=(Zg5 h (by omega)).2.1
 refine⟨by omega,I.pal,I.agl,fun j h0 hj=>?_⟩
 obtain⟨p,a,c,h1,h2,_⟩:=I.by_ j h0 hj
 rw[z'g,h2]
 simp only[z'y];omega
theorem Zpz {p:Pg} {m r b:Int} (h:Zc2 p m r b=true): ∃S,mdU p b=mkU p∧Zc3 p m r b=spA S∧x'd (mkU p)=true∧OkU (mkU p)∧Zdq m r b=true∧ZcZ (mkU p) m r b=some S∧ZcY S.cf.length S.pa S.ag∧(∀c,c∈S.cf→Rt (mkU p) c m r)∧b≤150∧v'G (mkU p)=true:=by
 simp only[Zc2,z'f,decide_eq_true_eq]at h
 obtain⟨hM,he⟩:=h
 have hM2:=hM
 simp only[mdB,z'f,decide_eq_true_eq]at hM2
 have hu:=ZjR hM2.2.2
 have e1:mdU p b=mkU p:=by rw[mdU,hM]
 have e2:Zc3 p m r b=spR (mkU p) m r b:=by rw[Zc3,hM]
 cases hU:x'd (mkU p)with
 |false=>simp[ZaL,hU]at he
 |true=>
 cases hA:Zdq m r b with
 |false=>simp[ZaL,hU,hA]at he
 |true=>
 cases hS:ZcZ (mkU p) m r b with
 |none=>simp[ZaL,hU,hA,hS]at he
 |some S=>
  have hA2:=hA
  simp only[Zdq,z'f,decide_eq_true_eq]at hA2
  refine⟨S,e1,?_,rfl,hu,rfl,rfl,ZoT hS hA2.2.2.1 (by omega),Zsk hS hA2.2.2.1 (Zhi hu hU hA2.1 hA2.2.1),hM2.1.2,hM2.2.2⟩
  rw[e2]
  simp only[spR,hU,hA,hS,Bool.and_self]
theorem ZtC {n:Nat} {P B:List Int} (h:ZcY n P B) (i:Int):(toI n P B i).length≤1000000:=by
 unfold toI
 split
 ·rename_i hd
  simp only[z'f,decide_eq_true_eq]at hd
  have:=ZnD h i.toNat (by omega)
  have:=h.len
  omega
 ·exact z'A _
theorem ZjS {u:Un} {C:List Cf} {P B:List Int} (h:ZcY C.length P B) (kind:Int) (l:List Opc):(w'j u C P B kind l).path.length≤1000000:=by
 unfold w'j
 split
 ·exact z'A _
 ·dsimp only
  split
  ·exact ZtC h _
  ·exact z'A _
theorem ZlG (p:Pg) (m r b:Int): ∃C g P B,Zc3 p m r b=spC C g P B:=by
 unfold Zc3
 split
 ·unfold spR
  split
  ·split
   ·exact⟨_,_,_,_,rfl⟩
   ·exact⟨_,_,_,_,rfl⟩
  ·exact⟨_,_,_,_,rfl⟩
 ·exact⟨_,_,_,_,rfl⟩
end Go.Proofs.YthlkpnjjkgmlkaaGreat
