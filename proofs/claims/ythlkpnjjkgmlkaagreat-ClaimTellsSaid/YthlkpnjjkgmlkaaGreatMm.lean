/- Contracts: what is so of configurations: the reference; a case's unit and space. No condition. -/
import Derived.Test.YthlkpnjjkgmlkaaGreatLu
import Derived.Test.YthlkpnjjkgmlkaaGreatDg
import Derived.Test.YthlkpnjjkgmlkaaGreatDp
import Derived.Test.YthlkpnjjkgmlkaaGreatDh
import Derived.Test.YthlkpnjjkgmlkaaGreatXf
import Derived.Test.YthlkpnjjkgmlkaaGreatLc
import Derived.Test.YthlkpnjjkgmlkaaGreatXa
namespace Go.Proofs.YthlkpnjjkgmlkaaGreat
set_option maxHeartbeats 16000000
set_option linter.unusedSimpArgs false
set_option linter.unusedVariables false
set_option maxRecDepth 20000
open Go Go.Proofs Go.Vc
attribute [local irreducible] x'v VCg VCw VCx
def x'n (p:Cf→Bool) (C:List Cf):Int:=match C.findIdx? p with|none=> -1|some i=>i
theorem Zht {p:Cf→Bool} {C:List Cf} {k:Nat} (hk:k<C.length) (h: ∀i,i<k→p (C.getD i default)=false) (hg:p (C.getD k default)=true):x'n p C=k:=by
 unfold x'n
 have e:C.findIdx? p=some k:=by
  rw[List.findIdx?_eq_some_iff_getElem]
  have hv:=fun i (hi:i<C.length)=>(Zba (d:=(default:Cf)) (z'c hi)).symm
  refine⟨hk,by rw[hv k hk];exact hg,fun j hj=>?_⟩
  rw[hv j (by omega),h j hj];exact Bool.false_ne_true
 rw[e]
theorem ZmS {p:Cf→Bool} {C:List Cf} (h: ∀i,i<C.length→p (C.getD i default)=false):x'n p C= -1:=by
 unfold x'n
 have e:C.findIdx? p=none:=by
  rw[List.findIdx?_eq_none_iff]
  intro x hx
  obtain⟨i,hi⟩:=y'k hx
  have:=h i (z'b.1 hi).1
  rwa [Zba hi]at this
 rw[e]
theorem ZiN (p:Cf→Bool) (C:List Cf): -1≤x'n p C∧x'n p C<(C.length:Int):=by
 unfold x'n
 split
 ·omega
 ·rename_i i hi
  rw[List.findIdx?_eq_some_iff_getElem]at hi
  obtain⟨h,_⟩:=hi
  omega
def hoB (u:Un) (l:List Opc) (c:Cf):Bool:=w'1 l u.md [] c.regs c.mem&&(Zcc l u.md [] c.regs c.mem != 0)
def soB (u:Un) (l:List Opc) (fin so:Bool) (c:Cf):Bool:=(hoB u l c == so)&&(!fin||w'h u c)
structure Rs where
 holds:Bool
 has:Bool
 path:List Int
def rsR (r:Rs):List D:=[bD r.holds,bD r.has,y'r r.path]
def Zjh (l:List Rs):List (List D):=l.map rsR
theorem ZhL (l:List Rs):(Zjh l).length=l.length:=z'm ..
def rs0:Rs:=⟨false,false,[]⟩
theorem Zt6 {e eb:Nat} {ea full:Bool} {ez:List Value} {l:List Rs} {k:IntKind} {n:Int} {K:D→Prop}:
  cIndexAddr (.slice e 3 eb ea ez) (.sl full 3 (Zjh l)) (.is (.int k n)) K=((0≤n∧n<l.length)∧K (.pt (rsR (l.getD n.toNat rs0)))):=ZaX rsR rs0
def w'j (u:Un) (C:List Cf) (P B:List Int) (kind:Int) (l:List Opc):Rs:=
 if kind<1∨kind>3 then rs0 else
  ⟨decide (0≤x'n (soB u l (decide (kind≠3)) (decide (kind=2))) C) == decide (kind=2),decide (0≤x'n (soB u l (decide (kind≠3)) (decide (kind=2))) C),
   if 0≤x'n (soB u l (decide (kind≠3)) (decide (kind=2))) C then toI C.length P B (x'n (soB u l (decide (kind≠3)) (decide (kind=2))) C)else[]⟩
theorem Zr6 {l:List Opc} {c:Cf} (hl:l.length≤1000) (hc:OkC c):OkV l [] c.regs c.mem:=⟨hl,z'A _,hc.mem,hc.regs,hc.row⟩
theorem Zj3 (u:Un) (l:List Opc) (hl:l.length≤1000) (c:Cf) (hc:OkC c):Pure Tryz.prog 28 [.agg (unC u),z'S l,.agg (cfC c)] (bD (hoB u l c)):=by
 have c1:=Fun.argsW (args:=[z'S l,iD u.md,.gs none 0,.sl false 1 (w'y c.regs),y'r c.mem]) (Zkb l u.md [] c.regs c.mem (Zr6 hl hc)) (z'u (Fz.refl _ _) (z'u (Fz.refl _ _) (z'u z'1 (FzL.refl _ _))))
 refine Fun.of T [.tmp 6] Tryz.func28 rfl Tryz.ntmps28 Tryz.results28 rfl (by kernel_rfl) ?_
 repeat' first|refine vb (t:=32) rfl rfl rfl rfl ?_|refine vb (t:=69) rfl rfl rfl rfl ?_|refine mq2 @valD2.eq_1 c1 ?_|refine z'p T (z'a _) ?_;(try simp only[upd,Nat.reduceBEq,cond_true,cond_false,and_true])|with_reducible refine z'n (fun hc=>?_) (fun hc=>?_)|fail
 all_goals(unfold hoB;rw[hc];rfl)
theorem Zj1 (u:Un) (hu:OkU u) (C:List Cf) (g:Cs) (P B:List Int) (hl:C.length≤1000000) (hC: ∀c,c∈C→OkC c) (l:List Opc) (hll:l.length≤1000) (fin so:Bool):Pure Tryz.prog 30 [.agg (unC u),.agg (spC C g P B),z'S l,bD fin,bD so] (iD (x'n (soB u l fin so) C)):=by
 refine Fun.of T [.tmp 10] Tryz.func30 rfl Tryz.ntmps30 Tryz.results30 rfl (by kernel_rfl) ?_
 repeat' first|refine vb (t:=32) rfl rfl rfl rfl ?_|refine vb (t:=57) rfl rfl rfl rfl ?_|refine mq0 ?_|fail
 refine VC.loop {k:Nat//k≤C.length∧ ∀i,i<k→soB u l fin so (C.getD i default)=false} (fun p=>⟨z'T [(2,z'S l),(3,bD fin),(4,bD so),(5,.pt (unC u)),(6,.pt (spC C g P B)),(11,iD (p.1:Nat))],[]⟩) (fun p=>C.length-p.1) ⟨0,z'A _,fun i hi=>by omega⟩ ?_ ?_
 ·refine Weak.sub ?_
  simp[sub,upd]
 rintro⟨k,hk,hs⟩
 dsimp only at hk hs⊢
 rcases z'i k C.length with hlt|hge
 case inr=>
  have e1:decide ((k:Int)<(C.length:Int))=false:=decide_eq_false (by omega)
  rw[ZmS fun i hi=>hs i (by omega)]
  repeat' first|refine mq1 (z'X @w'd @e1) ?_|exact z'p T (z'a _) ⟨rfl,rfl⟩|fail
 have e1:decide ((k:Int)<(C.length:Int))=true:=decide_eq_true (by omega)
 have hc:=hC _ (x'p (d:=(default:Cf)) hlt)
 have c1:=Zj3 u l hll _ hc
 have c2:=Zj0 u (C.getD k default) (by have:=hu.cod;omega) (by have:=hc.bufs;omega)
 cases fin
 all_goals
  repeat' first|refine dr (id:=4) T 20 (by kernel_rfl) ?_|(first|apply VCg.step T rfl rfl|apply exF);focus((try simp (disch:=omega) only[go_sem,Nat.reduceBEq,Nat.reduceAdd,Nat.reduceLeDiff,Zf6,z'e,z'P,z'W]);(first|exact rfl|refine⟨?_,rfl⟩;try omega|refine Op1.callp rfl rfl (c1) rfl ?_;exact⟨rfl,rfl⟩))|refine VCg.gstep T rfl rfl rfl rfl ?_;try simp only[GB]|refine VCg.gundef T rfl rfl rfl rfl ?_|refine mq2 (x'i @w'd @w64 @e1) c2 ?_|refine gu rfl rfl ?_|refine z'p T (z'a _) ?_;(try simp only[upd,Nat.reduceBEq,cond_true,cond_false,and_true])|with_reducible refine z'n (fun hc=>?_) (fun hc=>?_)<;>(try simp only[beq_iff_eq,beq_eq_false_iff_ne,ne_eq]at hc)|fail
 ·rw[Zht hlt hs (by rw[soB,hc];simp)]
 ·refine⟨⟨k+1,by omega,y's hs (by rw[soB,beq_eq_false_iff_ne.2 hc];rfl)⟩,Weak.sub ?_,by dsimp only;omega⟩
  simp[sub,upd]
 ·rename_i h1
  rw[Zht hlt hs (by rw[soB,h1,hc];simp)]
 ·rename_i h1
  refine⟨⟨k+1,by omega,y's hs (by rw[soB,hc];simp)⟩,Weak.sub ?_,by dsimp only;omega⟩
  simp[sub,upd]
 ·refine⟨⟨k+1,by omega,y's hs (by rw[soB,beq_eq_false_iff_ne.2 hc];rfl)⟩,Weak.sub ?_,by dsimp only;omega⟩
  simp[sub,upd]
theorem Zts (u : Un) (hu : OkU u) (C : List Cf) (g : Cs) (P B : List Int) (hT : ZcY C.length P B) (hC : ∀ c, c ∈ C → OkC c) (l : List Opc) (hll : l.length ≤ 1000) (kind : Int) : Pure Tryz.prog 32 [.agg (unC u), .agg (spC C g P B), iD kind, z'S l] (.agg (rsR (w'j u C P B kind l))) := by
  refine Fun.fz ?_
  refine Fun.of T [.cell 8 76] Tryz.func32 rfl Tryz.ntmps32 Tryz.results32 rfl (by kernel_rfl) ?_
  by_cases hk : kind < 1 ∨ kind > 3
  · rw [show w'j u C P B kind l = rs0 by rw [w'j, if_pos hk]]
    repeat' first | refine vb (t := 32) rfl rfl rfl rfl ?_ | refine vb (t := 57) rfl rfl rfl rfl ?_ | refine vs T rfl fun K hK => ?_; (try simp (disch := omega) only [go_sem, Nat.reduceBEq, Nat.reduceAdd, Nat.reduceLeDiff]); (first | refine hK _ _ ?_; clear hK K | intro bq hbq; (try simp only [HB] at hbq); refine hK _ _ ?_; clear hK K) | refine st rfl ?_ | refine sc rfl ?_ | refine nl ?_ | refine gs rfl rfl ?_ | with_reducible refine z'n (fun hc => ?_) (fun hc => ?_) <;> (try simp only [decide_eq_true_eq, decide_eq_false_iff_not, gt_iff_lt, z'w] at hc) <;> (try (exfalso; omega))
    all_goals first
      | (exfalso; omega)
      | (refine ZdM T rfl (by (try simp (disch := omega) only [hget_ne, hget_eq]); rfl) rfl rfl rfl (z'a _) ?_
         exact ⟨_, rfl, z'u (Fz.refl _ _) (z'u (Fz.refl _ _) (z'u z'1 x'9))⟩)
  have f1 : decide (kind < 1) = false := decide_eq_false (by omega)
  have f2 : decide (kind > 3) = false := decide_eq_false (by omega)
  have c1 := Zj1 u hu C g P B hT.len hC l hll (decide (kind ≠ 3)) (decide (kind = 2))
  have c2 := ZuI C g P B hT (x'n (soB u l (decide (kind ≠ 3)) (decide (kind = 2))) C)
  have hO : w'j u C P B kind l = ⟨decide (0 ≤ x'n (soB u l (decide (kind ≠ 3)) (decide (kind = 2))) C) == decide (kind = 2), decide (0 ≤ x'n (soB u l (decide (kind ≠ 3)) (decide (kind = 2))) C),
      if 0 ≤ x'n (soB u l (decide (kind ≠ 3)) (decide (kind = 2))) C then toI C.length P B (x'n (soB u l (decide (kind ≠ 3)) (decide (kind = 2))) C) else []⟩ := by rw [w'j, if_neg hk]
  rw [hO]
  generalize x'n (soB u l (decide (kind ≠ 3)) (decide (kind = 2))) C = at_ at *
  have g1 : (kind != 3) = decide (kind ≠ 3) := by rw [x'g]; simp
  have g2 : (kind == 2) = decide (kind = 2) := by rw [x'g]; simp
  repeat' first | refine vb (t := 32) rfl rfl rfl rfl ?_ | refine vb (t := 57) rfl rfl rfl rfl ?_ | refine vs T rfl fun K hK => ?_; (try simp (disch := omega) only [go_sem, Nat.reduceBEq, Nat.reduceAdd, Nat.reduceLeDiff, f1, f2, g1, g2]); (first | refine hK _ _ ?_; clear hK K | intro bq hbq; (try simp only [HB] at hbq); refine hK _ _ ?_; clear hK K | refine Op1.callp rfl rfl (c1) rfl ?_; refine hK _ _ ?_; clear hK K | refine Op1.callp rfl rfl (c2) rfl ?_; refine hK _ _ ?_; clear hK K) | refine st rfl ?_ | refine sc rfl ?_ | refine nl ?_ | refine gs rfl rfl ?_ | with_reducible refine z'n (fun hc => ?_) (fun hc => ?_) <;> (try simp only [decide_eq_true_eq, decide_eq_false_iff_not, ge_iff_le, y'b] at hc)
  · rw [if_pos hc]
    exact ZdM T rfl (by (try simp (disch := omega) only [hget_ne, hget_eq]); rfl) rfl rfl rfl (z'a _) (Fz.refl _ _)
  · rw [if_neg (by omega)]
    exact ZdM T rfl (by (try simp (disch := omega) only [hget_ne, hget_eq]); rfl) rfl rfl rfl (z'a _) ⟨_, rfl, z'u (Fz.refl _ _) (z'u (Fz.refl _ _) (z'u z'1 x'9))⟩
theorem Zhd (l:List Int) (h:l.length≤1000000):Pure Tryz.prog 38 [y'r l,y'r l] (bD true):=by
 have:=ZgJ l l h h
 rwa [decide_eq_true rfl]at this
theorem Zoq (l:List Rs) (hl:l.length≤1000000) (hp: ∀r,r∈l→r.path.length≤1000000) (f1 f2:Bool):Pure Tryz.prog 25 [.sl f1 3 (Zjh l),.sl f2 3 (Zjh l)] (bD true):=by
 refine Fun.of T [.tmp 4] Tryz.func25 rfl Tryz.ntmps25 Tryz.results25 rfl (by kernel_rfl) ?_
 have e0:((l.length:Int) != (l.length:Int))=false:=by simp
 repeat' first|refine mq1 (z'X @ZhL @e0) ?_|fail
 refine VC.loop {k:Nat//k≤l.length} (fun p=>⟨z'T [(0,.sl f1 3 (Zjh l)),(1,.sl f2 3 (Zjh l)),(5,iD (p.1:Nat))],[]⟩) (fun p=>l.length-p.1) ⟨0,z'A _⟩ ?_ ?_
 ·refine Weak.sub ?_
  simp[sub,upd]
 rintro⟨k,hk⟩
 dsimp only at hk⊢
 rcases z'i k l.length with hlt|hge
 case inr=>
  have e1:decide ((k:Int)<(l.length:Int))=false:=decide_eq_false (by omega)
  repeat' first|refine mq1 (z'X @ZhL @e1) ?_|exact z'p T (z'a _) ⟨rfl,rfl⟩|fail
 have e1:decide ((k:Int)<(l.length:Int))=true:=decide_eq_true (by omega)
 have c1:=Zhd (l.getD k rs0).path (hp _ (x'p hlt))
 have b1:((l.getD k rs0).holds != (l.getD k rs0).holds)=false:=by simp
 have b2:((l.getD k rs0).has != (l.getD k rs0).has)=false:=by simp
 repeat' first|refine dr (id:=6) T 35 (by kernel_rfl) ?_|(first|apply VCg.step T rfl rfl|apply exF);focus((try simp (disch:=omega) only[go_sem,Nat.reduceBEq,Zt6,rsR,z'e,b1,b2]);(first|exact rfl|refine⟨?_,rfl⟩;try omega))|refine VCg.gstep T rfl rfl rfl rfl ?_;try simp only[GB]|refine mq2 (x'i @ZhL @w64 @e1) c1 ?_|fail
 refine⟨⟨k+1,by omega⟩,Weak.sub ?_,by dsimp only;omega⟩
 simp[sub,upd]
theorem ZpL (u:Un) (hu:OkU u) (m r b:Int) (hb:b≤1000):Pure Tryz.prog 48 [.agg (unC u),iD m,iD r,iD b] (.tup [.agg (spR u m r b),iD (ZaL u m r b)]):=by
 cases hU:x'd u with
 |false=>exact Zrv u hu m r b hU
 |true=>
 cases hA:Zdq m r b with
 |false=>exact Zru u hu m r b hU hA
 |true=>exact Ztm u hu m r b hU hA hb
abbrev Zqh (p:Pg) (m r b:Int):List D:=pgC p++[iD m,iD r,iD b]
def un0:Un:=⟨0,[],[],[]⟩
abbrev Zoy:List D:=spC [] ⟨[],[],[]⟩ [] []
def mdB (p:Pg) (b:Int):Bool:=(pgL p&&decide (b≤150))&&(decide ((w'P p).1=0)&&v'G (mkU p))
def mdU (p:Pg) (b:Int):Un:=match mdB p b with|true=>mkU p|false=>un0
def Zc3 (p:Pg) (m r b:Int):List D:=match mdB p b with|true=>spR (mkU p) m r b|false=>Zoy
def Zc2 (p:Pg) (m r b:Int):Bool:=mdB p b&&decide (ZaL (mkU p) m r b=0)
theorem ZlZ {P:Program} (T:Tab P) {E:Nat→D} {H:Heap} {a a2 t:Tmp} {ty ty2:TypeId} {Φ:D→Heap→Prop} {H':Heap} {b n:Nat} {ty':TypeId} {l:List D} {b2 n2:Nat} {ty2':TypeId} {l2:List D} (ha:E a= .is (.pointer (some ⟨b,0,none⟩))) (hb:w'v H b=some (.cells ty' n l))
  (hk:(T.get ty).known=true) (hz:(T.get ty).size=l.length) (hag:(T.get ty).agg=true) (ha2:E a2= .is (.pointer (some ⟨b2,0,none⟩))) (hb2:w'v H b2=some (.cells ty2' n2 l2))
  (hk2:(T.get ty2).known=true) (hz2:(T.get ty2).size=l2.length) (hag2:(T.get ty2).agg=true) (hs:H'.Sublist H) (h:Φ (.tup [.agg l,.agg l2,E t]) H'):x'v T [.cell a ty,.cell a2 ty2,.tmp t] Φ .ret ⟨E,H⟩:=by
 unfold x'v
 exact⟨[.agg l,.agg l2,E t],H',⟨b,ty',n,l,_,ha,x'Q hb,hk,hz,by rw[hag],⟨b2,ty2',n2,l2,_,ha2,x'Q hb2,hk2,hz2,by rw[hag2],_,rfl,rfl⟩⟩,hs,h⟩
theorem Zta {o:Oper} {E:Operand→D} {H:Heap} {J:D→Heap→Prop} (h: ∀K:D→Heap→Prop,(∀d H',J d H'→K d H')→opC T o E H K):OpS Tryz.prog o E H J:=
 let ⟨_,q1,q2⟩:=v'R T (h J fun _ _ h=>h);q1.mono q2
theorem ZjM (p:Pg) (m r b:Int):Pure Tryz.prog 21 [.agg (Zqh p m r b)] (.tup [.agg (unC (mdU p b)),.agg (Zc3 p m r b),bD (Zc2 p m r b)]):=by
 have c1:=Zon p
 refine Fun.fz ?_
 refine Fun.of T [.cell 2 32,.cell 3 57,.tmp 4] Tryz.func21 rfl Tryz.ntmps21 Tryz.results21 rfl (by kernel_rfl) ?_
 cases h1:pgL p&&decide (b≤150)with
 |false=>
  rw[show mdU p b=un0 by rw[mdU,mdB,h1];rfl,show Zc3 p m r b=Zoy by rw[Zc3,mdB,h1];rfl,show Zc2 p m r b=false by rw[Zc2,mdB,h1];rfl]
  simp only[v'd,decide_eq_false_iff_not]at h1
  repeat' first|refine vb (t:=52) rfl rfl rfl rfl ?_|refine vs T rfl fun K hK=>?_;(try simp (disch:=omega) only[go_sem,Nat.reduceBEq,Nat.reduceAdd,Nat.reduceLeDiff]);(first|refine hK _ _ ?_;clear hK K|intro bq hbq;(try simp only[HB]at hbq);refine hK _ _ ?_;clear hK K|refine Op1.callp rfl rfl (c1) rfl ?_;refine hK _ _ ?_;clear hK K|skip)|refine st rfl ?_|refine sc rfl ?_|refine nl ?_|refine gs rfl rfl ?_|with_reducible refine z'n (fun hc=>?_) (fun hc=>?_)<;>(try simp only[decide_eq_true_eq,decide_eq_false_iff_not,z'x,z'B,gt_iff_lt,z'w]at hc)
  all_goals first
   |(exfalso;rcases h1 with h|h<;>simp_all<;>omega)
   |(refine ZlZ T rfl (by(try simp (disch:=omega) only[hget_ne,hget_eq]);rfl) rfl rfl rfl rfl (by(try simp (disch:=omega) only[hget_ne,hget_eq]);rfl) rfl rfl rfl (z'a _) ?_;exact⟨_,rfl,z'u ⟨_,rfl,z'u (Fz.refl _ _) (z'u z'1 (z'u z'1 (z'u z'1 x'9)))⟩ (z'u ⟨_,rfl,z'u z'1 (z'u z'1 (z'u z'1 (z'u z'1 (z'u z'1 (z'u z'1 x'9)))))⟩ (FzL.refl _ _))⟩)
 |true=>
 have hM:mdB p b=(decide ((w'P p).1=0)&&v'G (mkU p)):=by rw[mdB,h1];rfl
 simp only[z'f,decide_eq_true_eq]at h1
 rw[h1.1]at c1
 have c2:=Zq3 p (Zus h1.1)
 have f1:decide (b>150)=false:=decide_eq_false (by omega)
 have c3:=Zp8 (mkU p)
 cases hN:decide ((w'P p).1=0)&&v'G (mkU p)with
 |false=>
  rw[hN]at hM
  rw[show mdU p b=un0 by rw[mdU,hM],show Zc3 p m r b=Zoy by rw[Zc3,hM],show Zc2 p m r b=false by rw[Zc2,hM];rfl]
  simp only[v'd,decide_eq_false_iff_not]at hN
  repeat' first|refine vb (t:=52) rfl rfl rfl rfl ?_|refine vs T rfl fun K hK=>?_;(try simp (disch:=omega) only[go_sem,Nat.reduceBEq,Nat.reduceAdd,Nat.reduceLeDiff,f1,z'P]);(first|refine hK _ _ ?_;clear hK K|intro bq hbq;(try simp only[HB]at hbq);refine hK _ _ ?_;clear hK K|refine Op1.callp rfl rfl (c1) rfl ?_;refine hK _ _ ?_;clear hK K|refine Op1.callp rfl rfl (c2) rfl ?_;refine hK _ _ ?_;clear hK K|refine Op1.callp rfl rfl (c3) rfl ?_;refine hK _ _ ?_;clear hK K|skip)|refine st rfl ?_|refine sc rfl ?_|refine nl ?_|refine gs rfl rfl ?_|with_reducible refine z'n (fun hc=>?_) (fun hc=>?_)<;>(try simp only[bne_iff_ne,bne_eq_false_iff_eq,ne_eq,z'x,z'B]at hc)
  all_goals first
   |(exfalso;rcases hN with h|h<;>simp_all;done)
   |(refine ZlZ T rfl (by(try simp (disch:=omega) only[hget_ne,hget_eq]);rfl) rfl rfl rfl rfl (by(try simp (disch:=omega) only[hget_ne,hget_eq]);rfl) rfl rfl rfl (z'a _) ?_;exact⟨_,rfl,z'u ⟨_,rfl,z'u (Fz.refl _ _) (z'u z'1 (z'u z'1 (z'u z'1 x'9)))⟩ (z'u ⟨_,rfl,z'u z'1 (z'u z'1 (z'u z'1 (z'u z'1 (z'u z'1 (z'u z'1 x'9)))))⟩ (FzL.refl _ _))⟩)
 |true=>
 rw[hN]at hM
 rw[show mdU p b=mkU p by rw[mdU,hM],show Zc3 p m r b=spR (mkU p) m r b by rw[Zc3,hM],show Zc2 p m r b=decide (ZaL (mkU p) m r b=0) by rw[Zc2,hM];rfl]
 simp only[z'f,decide_eq_true_eq]at hN
 rw[hN.2]at c3
 have f2:((w'P p).1 != 0)=false:=bne_eq_false_iff_eq.2 hN.1
 have c4:=ZpL (mkU p) (ZjR hN.2) m r b (by omega)
 obtain⟨C,g,P,B,hsp⟩: ∃C g P B,spR (mkU p) m r b=spC C g P B:=by
  unfold spR
  split
  ·split
   ·exact⟨_,_,_,_,rfl⟩
   ·exact⟨_,_,_,_,rfl⟩
  ·exact⟨_,_,_,_,rfl⟩
 rw[hsp]at c4⊢
 have g1:(ZaL (mkU p) m r b == 0)=decide (ZaL (mkU p) m r b=0):=by rw[x'g];simp
 repeat' first|refine vb (t:=52) rfl rfl rfl rfl ?_|refine VC.drawS (id:=7) (by kernel_rfl) ?_|refine mq2 (z'X @f1 @f2) (x'f c1 c2 c3 c4) ?_|refine mqn fun bq hbq=>?_|fail
 rename_i b2 _ b3 _ b5 _
 generalize ZaL (mkU p) m r b=er at*
 refine VCd.sim (fun L E H=>((E 2=ptB b2∧E 3=ptB b3)∧(E 5=ptB b5∧E 8=ptB bq)∧E 9=iD er)∧(L 0→E 48= .agg (unC (mkU p)))∧(L 1→E 49= .agg (spC C g P B))∧(L 2→E 50=iD er)∧(L 3→E 51=bD (er == 0))∧
  ∃l2 l3:List D,H=[(bq,.cells 57 6 (spC C g P B)),(b5,.cells 32 4 (unC (mkU p))),(b3,.cells 57 6 l3),(b2,.cells 32 4 l2)]∧(l2.length=4∧l3.length=6)∧(L 4→l2=unC (mkU p))∧(L 5→l3=spC C g P B)) 0 6 6 rfl rfl (by kernel_rfl) (by kernel_rfl) (by kernel_rfl) ?_ ?_ ?_
 ·exact⟨⟨⟨rfl,rfl⟩,⟨rfl,rfl⟩,rfl⟩,fun h=>absurd h (by omega),fun h=>absurd h (by omega),fun h=>absurd h (by omega),fun h=>absurd h (by omega),_,_,rfl,⟨rfl,rfl⟩,fun h=>absurd h (by omega),fun h=>absurd h (by omega)⟩
 ·rintro L E H i o ⟨⟨⟨a1,a2⟩,⟨a3,a4⟩,a5⟩,k0,k1,k2,k3,l2,l3,rfl,⟨n2,n3⟩,k4,k5⟩ ho _ hi hL hed
  have hi6:i=0∨i=1∨i=2∨i=3∨i=4∨i=5:=by omega
  obtain⟨x0,x1,x2,x3,rfl⟩: ∃x0 x1 x2 x3,l2=[x0,x1,x2,x3]:=by
   rcases l2 with _|⟨x0,_|⟨x1,_|⟨x2,_|⟨x3,_|⟨x4,l2⟩⟩⟩⟩⟩<;>first|exact⟨_,_,_,_,rfl⟩|(simp at n2)
  obtain⟨y0,y1,y2,y3,y4,y5,rfl⟩: ∃y0 y1 y2 y3 y4 y5,l3=[y0,y1,y2,y3,y4,y5]:=by
   rcases l3 with _|⟨x0,_|⟨x1,_|⟨x2,_|⟨x3,_|⟨x4,_|⟨x5,_|⟨x6,l3⟩⟩⟩⟩⟩⟩⟩<;>first|exact⟨_,_,_,_,_,_,rfl⟩|(simp at n3)
  rcases hi6 with rfl|rfl|rfl|rfl|rfl|rfl
  all_goals
   simp only[w'I,x'L,x'4,z'H]at ho
   subst ho
   refine⟨rfl,Zta fun K hK=>?_⟩
  ·simp (disch:=omega) only[go_sem,Nat.reduceBEq,Nat.reduceAdd,Nat.reduceMul,Nat.reduceSub,Nat.reduceLeDiff,Int.reduceToNat,a3]
   exact hK _ _ ⟨⟨⟨a1,a2⟩,⟨a3,a4⟩,a5⟩,fun _=>rfl,fun h=>k1 (h.resolve_left (by decide)),fun h=>k2 (h.resolve_left (by decide)),fun h=>k3 (h.resolve_left (by decide)),_,_,rfl,⟨rfl,rfl⟩,fun h=>k4 (h.resolve_left (by decide)),fun h=>k5 (h.resolve_left (by decide))⟩
  ·simp (disch:=omega) only[go_sem,Nat.reduceBEq,Nat.reduceAdd,Nat.reduceMul,Nat.reduceSub,Nat.reduceLeDiff,Int.reduceToNat,a4]
   exact hK _ _ ⟨⟨⟨a1,a2⟩,⟨a3,a4⟩,a5⟩,fun h=>k0 (h.resolve_left (by decide)),fun _=>rfl,fun h=>k2 (h.resolve_left (by decide)),fun h=>k3 (h.resolve_left (by decide)),_,_,rfl,⟨rfl,rfl⟩,fun h=>k4 (h.resolve_left (by decide)),fun h=>k5 (h.resolve_left (by decide))⟩
  ·simp (disch:=omega) only[go_sem,Nat.reduceBEq,Nat.reduceAdd,Nat.reduceMul,Nat.reduceSub,Nat.reduceLeDiff,Int.reduceToNat,a5]
   exact hK _ _ ⟨⟨⟨a1,a2⟩,⟨a3,a4⟩,a5⟩,fun h=>k0 (h.resolve_left (by decide)),fun h=>k1 (h.resolve_left (by decide)),fun _=>rfl,fun h=>k3 (h.resolve_left (by decide)),_,_,rfl,⟨rfl,rfl⟩,fun h=>k4 (h.resolve_left (by decide)),fun h=>k5 (h.resolve_left (by decide))⟩
  ·have:=k2 (hed ⟨2,.data⟩ (by simp) (by decide))
   simp (disch:=omega) only[go_sem,Nat.reduceBEq,Nat.reduceAdd,Nat.reduceMul,Nat.reduceSub,Nat.reduceLeDiff,Int.reduceToNat,this]
   exact hK _ _ ⟨⟨⟨a1,a2⟩,⟨a3,a4⟩,a5⟩,fun h=>k0 (h.resolve_left (by decide)),fun h=>k1 (h.resolve_left (by decide)),fun h=>k2 (h.resolve_left (by decide)),fun _=>rfl,_,_,rfl,⟨rfl,rfl⟩,fun h=>k4 (h.resolve_left (by decide)),fun h=>k5 (h.resolve_left (by decide))⟩
  ·have:=k0 (hed ⟨0,.data⟩ (by simp) (by decide))
   simp (disch:=omega) only[go_sem,Nat.reduceBEq,Nat.reduceAdd,Nat.reduceMul,Nat.reduceSub,Nat.reduceLeDiff,Int.reduceToNat,this,a1]
   exact hK _ _ ⟨⟨⟨a1,a2⟩,⟨a3,a4⟩,a5⟩,fun h=>k0 (h.resolve_left (by decide)),fun h=>k1 (h.resolve_left (by decide)),fun h=>k2 (h.resolve_left (by decide)),fun h=>k3 (h.resolve_left (by decide)),_,_,rfl,⟨rfl,rfl⟩,fun _=>rfl,fun h=>k5 (h.resolve_left (by decide))⟩
  ·have:=k1 (hed ⟨1,.data⟩ (by simp) (by decide))
   simp (disch:=omega) only[go_sem,Nat.reduceBEq,Nat.reduceAdd,Nat.reduceMul,Nat.reduceSub,Nat.reduceLeDiff,Int.reduceToNat,this,a2]
   exact hK _ _ ⟨⟨⟨a1,a2⟩,⟨a3,a4⟩,a5⟩,fun h=>k0 (h.resolve_left (by decide)),fun h=>k1 (h.resolve_left (by decide)),fun h=>k2 (h.resolve_left (by decide)),fun h=>k3 (h.resolve_left (by decide)),_,_,rfl,⟨rfl,rfl⟩,fun h=>k4 (h.resolve_left (by decide)),fun _=>rfl⟩
 ·rintro E H ⟨⟨⟨a1,a2⟩,⟨a3,a4⟩,a5⟩,k0,k1,k2,k3,l2,l3,rfl,⟨n2,n3⟩,k4,k5⟩
  rw[k4 (by show 4<6;omega),k5 (by show 5<6;omega)]
  have k3:=k3 (by show 3<6;omega)
  refine VCd.tail (f:=6) (by kernel_rfl) ?_
  simp only[v'z,x's,List.drop_nil]
  repeat' first|refine mq1 (z'X @k3 @g1) ?_|refine ov ?_|fail
  exact ZlZ T a1 (by(try simp (disch:=omega) only[hget_ne,hget_eq]);rfl) rfl rfl rfl a2 (by(try simp (disch:=omega) only[hget_ne,hget_eq]);rfl) rfl rfl rfl (z'a _) (Fz.refl _ _)
end Go.Proofs.YthlkpnjjkgmlkaaGreat
