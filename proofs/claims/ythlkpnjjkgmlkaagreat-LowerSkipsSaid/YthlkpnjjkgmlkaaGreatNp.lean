/- Contracts: one statement: whether it has what its kind asks. No condition. -/
import Derived.Test.YthlkpnjjkgmlkaaGreatNm
import Derived.Test.YthlkpnjjkgmlkaaGreatLk
namespace Go.Proofs.YthlkpnjjkgmlkaaGreat
set_option maxHeartbeats 16000000
set_option linter.unusedSimpArgs false
set_option linter.unusedVariables false
set_option maxRecDepth 20000
open Go Go.Proofs Go.Vc
attribute [local irreducible] x'r VCg VCw VCx
theorem Op1.callC {P:Program} {o:Oper} {E:Operand→D} {f:FuncId} {xf:Operand} {az:Array Operand} {tys:Array TypeId} {caps:Array Value} {args:List D} {H:Heap} {fr:Bool} {d0:D} {K:D→Heap→Prop}
  (ho:o.op= .call ⟨.value xf,az,tys⟩) (hE:E xf= .is (.func (.func f) #[] caps)) (h:Fun P f args H fr (fun d H'=>d=d0∧H'=H)) (ha:az.toList.map E++caps.toList.map D.is=args) (hk:K d0 H):Op1 P o E H K:=
 Op1.callG (Hp:=H) (Hr:=[]) ho hE ha h (by rw[z'u]) (fun d H' ⟨h1,h2⟩=>by subst h1;subst h2;rw[z'u];exact hk)
theorem ZoI (l:List Nod) (hl:l.length≤1000):Pure Tryz.prog 289 [y'4 l] (bD (plB l)):=by
 have c1:=ZiY l (by omega)
 have c2:=ZkP l hl
 have hL:(y'R l).length≤l.length:=List.length_filter_le _ _
 refine Fun.of T [.tmp 2] Tryz.func289 rfl Tryz.ntmps289 Tryz.results289 rfl (by kernel_rfl) ?_
 repeat' first|refine mq2 @z'Z c1 ?_|fail
 refine VC.loop {k:Nat//k≤(y'R l).length∧ ∀i,i<k→decide (((y'R l).getD i z'J).op=2)=true} (fun p=>⟨z'0 [(0,y'4 l),(6,y'4 (y'R l)),(7,iD ((y'R l).length:Nat)),(8,iD (p.1:Nat))],[]⟩) (fun p=>(y'R l).length-p.1) ⟨0,z'm _,fun i hi=>by omega⟩ ?_ ?_
 ·refine Weak.sub ?_
  simp[sub,upd,z'Z]
 rintro⟨k,hk,hs⟩
 dsimp only at hk hs⊢
 rcases z'g k (y'R l).length with hlt|hge
 case inr=>
  have e4:decide ((k:Int)<((y'R l).length:Int))=false:=decide_eq_false (by omega)
  rw[show plB l=exB l by unfold plB;rw[x'X (d:=z'J) (k:=k) (by omega) hs];rfl]
  repeat' first|refine mq2 @e4 c2 ?_|exact z'r T (z'a _) ⟨rfl,rfl⟩|fail
 have e4:decide ((k:Int)<((y'R l).length:Int))=true:=decide_eq_true (by omega)
 by_cases h2:((y'R l).getD k z'J).op=2
 ·have e5:(((y'R l).getD k z'J).op != 2)=false:=by simp only[h2,bne_self_eq_false]
  repeat' first|refine mq1 (mqt6 @y's @nodR.eq_1 @w64 @z'b @e4 @e5) ?_|refine mqn fun bq hbq=>?_|refine .wk ?_ ?_;focus(try omega)|fail
  refine⟨⟨k+1,by omega,y'r hs (decide_eq_true h2)⟩,y'J rfl ?_,by dsimp only;omega⟩
  simp[sub,upd]
 ·have e5:(((y'R l).getD k z'J).op != 2)=true:=bne_iff_ne.2 h2
  rw[show plB l=false by unfold plB;rw[w'd (d:=z'J) (i:=k) (by omega) (decide_eq_false h2)];rfl]
  repeat' first|refine mq1 (mqt5 @y's @nodR.eq_1 @z'b @e4 @e5) ?_|refine mqn fun bq hbq=>?_|refine .wk ?_ ?_;focus(try omega)|exact z'r T (z'a _) ⟨rfl,rfl⟩|fail
theorem ZoF (k:Int):Pure Tryz.prog 298 [iD k] (bD (Zah k)):=by
 refine Fun.of T [.tmp 2] Tryz.func298 rfl Tryz.ntmps298 Tryz.results298 rfl (by kernel_rfl) ?_
 by_cases h1:k=10
 ·subst h1
  repeat' first|refine mq0 ?_|exact z'r T (z'a _) ⟨rfl,rfl⟩|fail
 have e1:(k == 10)=false:=by simpa using h1
 by_cases h2:k=11
 ·subst h2
  repeat' first|refine mq0 ?_|exact z'r T (z'a _) ⟨rfl,rfl⟩|fail
 have e2:(k == 11)=false:=by simpa using h2
 by_cases h3:k=12
 ·subst h3
  repeat' first|refine mq0 ?_|exact z'r T (z'a _) ⟨rfl,rfl⟩|fail
 have e3:(k == 12)=false:=by simpa using h3
 rw[show Zah k=false by unfold Zah;rw[decide_eq_false h1,decide_eq_false h2,decide_eq_false h3];rfl]
 repeat' first|refine mq1 (mqt3 @e1 @e2 @e3) ?_|exact z'r T (z'a _) ⟨rfl,rfl⟩|fail
structure Knd where
 word:ByteArray
 form:ByteArray
 bd:Bool
 mr:Bool
def kd0:Knd:=⟨e0,e0,false,false⟩
def kdR (q:Knd):List D:=[sD q.word,sD q.form,bD q.bd,bD q.mr]
def ZmU (l:List Knd):List (List D):=l.map kdR
def kndT:List Knd:=[kd0,⟨⟨#[115,107,105,112]⟩,⟨#[59]⟩,false,false⟩,⟨⟨#[115,101,116]⟩,⟨#[114,61,101,59]⟩,false,false⟩,⟨⟨#[108,111,97,100]⟩,⟨#[114,61,108,59]⟩,false,false⟩,⟨⟨#[115,116,111,114,101]⟩,⟨#[108,61,101,59]⟩,false,false⟩,⟨⟨#[99,97,115]⟩,⟨#[114,61,108,44,101,44,102,59]⟩,false,false⟩,⟨⟨#[102,97,100,100]⟩,⟨#[114,61,108,44,101,59]⟩,false,false⟩,⟨⟨#[120,99,104,103]⟩,⟨#[114,61,108,44,101,59]⟩,false,false⟩,⟨⟨#[102,101,110,99,101]⟩,⟨#[59]⟩,false,false⟩,⟨⟨#[97,119,97,105,116]⟩,⟨#[108,113,101,59]⟩,false,false⟩,⟨⟨#[105,102]⟩,⟨#[101]⟩,true,true⟩,⟨⟨#[119,104,105,108,101]⟩,⟨#[101]⟩,true,false⟩,⟨⟨#[108,111,111,112]⟩,⟨#[]⟩,true,false⟩,⟨⟨#[98,114,101,97,107]⟩,⟨#[59]⟩,false,false⟩]
theorem Zki (l:List Knd):(ZmU l).length=l.length:=z'i ..
theorem ZgD:Pure Tryz.prog 299 [] (.sl true 4 (ZmU kndT)):=by
 refine Fun.of T [.tmp 0] Tryz.func299 rfl Tryz.ntmps299 Tryz.results299 rfl (by kernel_rfl) ?_
 repeat' first|refine mq0 ?_|exact z'r T (z'a _) ⟨rfl,rfl⟩|fail
theorem ZoG (k:Int):Pure Tryz.prog 285 [iD k] (if 1≤k∧k≤13 then .tup [.agg (kdR (kndT.getD k.toNat kd0)),bD true]else .tup [.agg (kdR kd0),bD false]):=by
 refine Fun.of T [.cell 2 313,.tmp 3] Tryz.func285 rfl Tryz.ntmps285 Tryz.results285 rfl (by kernel_rfl) ?_
 by_cases h:1≤k∧k≤13
 ·rw[if_pos h]
  have e1:decide (k<1)=false:=decide_eq_false (by omega)
  have hl:(kndT.length:Int)=14:=rfl
  have e2:decide (k≥(kndT.length:Int))=false:=decide_eq_false (by omega)
  have hn:(0≤k∧k<(kndT.length:Int)):=by omega
  have hq:(ZmU kndT)[k.toNat]?=some (kdR (kndT.getD k.toNat kd0)):=by
   rw[ZmU,z'K,z'f,z'k (by omega)];rfl
  generalize kndT.getD k.toNat kd0=q at*
  repeat' first|refine mq2 (mqt5 @Zki @e1 @e2 @hq @kdR.eq_1) ZgD ?_|refine mqn fun bq hbq=>?_|refine .wk ?_ ?_;focus(try omega)|exact ZbV T rfl (by(simp (disch:=omega) only[hget_eq])<;>rfl) rfl rfl rfl (z'a _) ⟨rfl,rfl⟩|fail
 ·rw[if_neg h]
  rcases w'7 k 1 with h1|h1
  ·have e1:decide (k<1)=true:=decide_eq_true h1
   repeat' first|refine mq2 @e1 ZgD ?_|refine mqn fun bq hbq=>?_|exact ZbV T rfl (by(simp (disch:=omega) only[hget_eq])<;>rfl) rfl rfl rfl (z'a _) ⟨rfl,rfl⟩|fail
  ·have e1:decide (k<1)=false:=decide_eq_false (by omega)
   have e2:decide (k≥14)=true:=decide_eq_true (by omega)
   have hl:(kndT.length:Int)=14:=rfl
   have e3:decide (k≥(kndT.length:Int))=true:=decide_eq_true (by omega)
   repeat' first|refine mq2 (mqt3 @Zki @e1 @e3) ZgD ?_|refine mqn fun bq hbq=>?_|exact ZbV T rfl (by(simp (disch:=omega) only[hget_eq])<;>rfl) rfl rfl rfl (z'a _) ⟨rfl,rfl⟩|fail
theorem Zij (q:Knd) (hs:q.form.size≤1000) (c:UInt8):Pure Tryz.prog 287 [.agg (kdR q),.is (.int .u8 c.toNat)] (bD (z'S q.form c)):=by
 obtain⟨word,s,bd,mr⟩:=q
 dsimp only at hs⊢
 have hsz:s.data.toList.length=s.size:=z'6
 refine Fun.of T [.tmp 4] Tryz.func287 rfl Tryz.ntmps287 Tryz.results287 rfl (by kernel_rfl) ?_
 repeat' first|refine vb rfl rfl rfl rfl ?_|refine mq1 @kdR.eq_1 ?_|fail
 refine VC.loop {k:Nat//k≤s.size∧ ∀(i:Nat) (y:UInt8),i<k→s.data.toList[i]?=some y→ ¬y=c} (fun p=>⟨z'0 [(1,.is (.int .u8 c.toNat)),(2,.pt (kdR ⟨word,s,bd,mr⟩)),(8,iD (s.size:Nat)),(9,iD (p.1:Nat))],[]⟩) (fun p=>s.size-p.1) ⟨0,by omega,fun i y hi=>by omega⟩ ?_ ?_
 ·refine Weak.sub ?_
  simp[sub,upd,kdR]
 ·rintro⟨k,hk,hno⟩
  dsimp only
  rcases z'g k s.size with hlt|hge
  ·have hd:decide ((k:Int)<(s.size:Int))=true:=by simp;omega
   have hw:IntKind.i64.wrap ((k:Int)+1)=((k+1:Nat):Int):=by rw[w64 (by omega)];omega
   obtain⟨y,hy⟩: ∃y,s.data.toList[k]?=some y:=⟨_,z'k (by omega)⟩
   have hg:s.data.toList.getD k 0=y:=by rw[z'f,hy];rfl
   by_cases he:y=c
   ·have he':((y.toNat:Int) == (c.toNat:Int))=true:=by rw[he];simp
    have hr:z'S s c=true:=by
     unfold z'S
     rw[List.any_eq_true]
     exact⟨y,z'E hy,by simpa using he⟩
    rw[hr]
    repeat' first|refine mq1 (mqt4 @kdR.eq_1 @hd @hg @he') ?_|refine .wk ?_ ?_;focus(try omega)|exact z'r T (z'a _) ⟨rfl,rfl⟩|fail
   ·have he':((y.toNat:Int) == (c.toNat:Int))=false:=by
     rw[beq_eq_false_iff_ne]
     intro h
     exact he (UInt8.toNat.inj (by omega))
    repeat' first|refine mq1 (mqt5 @kdR.eq_1 @hd @hw @hg @he') ?_|refine .wk ?_ ?_;focus(try omega)|fail
    refine⟨⟨k+1,by omega,fun i z hi hz=>?_⟩,Weak.sub ?_,by simp only[];omega⟩
    ·rcases z'g i k with h'|h'
     ·exact hno i z h' hz
     ·obtain rfl:i=k:=by omega
      rw[hy]at hz;cases hz;exact he
    ·simp[sub,upd,kdR]
  ·have hd:decide ((k:Int)<(s.size:Int))=false:=by simp;omega
   have hr:z'S s c=false:=by
    unfold z'S
    rw[List.any_eq_false]
    intro y hy
    obtain⟨i,hi⟩:=y'u hy
    simpa using hno i y (by have:=(z'z.1 hi).1;omega) hi
   rw[hr]
   repeat' first|refine mq1 (mqt2 @kdR.eq_1 @hd) ?_|exact z'r T (z'a _) ⟨rfl,rfl⟩|fail
def nmQ (h:Bool) (s:ByteArray):Bool:=if h=true then nmB s else isE s
def exQ (h:Bool) (l:List Nod):Bool:=if h=true then plB l else decide (l.length=0)
abbrev kdH (b:Nat) (q:Knd):Heap:=[(b,.cells 313 4 (kdR q))]
theorem ZiW (b:Nat) (q:Knd) (hs:q.form.size≤1000) (c:UInt8) (s:ByteArray):Fun Tryz.prog 286 [.is (.int .u8 c.toNat),sD s,ptB b] (kdH b q) false (fun d H'=>d=bD (nmQ (z'S q.form c) s)∧H'=kdH b q):=by
 have c1:=Zij q hs c
 have c2:=ZbK s
 have d1:decide (s=e0)=isE s:=rfl
 refine Fun.of T [.tmp 5] Tryz.func286 rfl Tryz.ntmps286 Tryz.results286 rfl (by kernel_rfl) ?_
 cases hh:z'S q.form c with
 |true=>
  rw[hh]at c1
  rw[show nmQ true s=nmB s from rfl]
  repeat' first|refine mq2 @kdR.eq_1 (mqt2 c1 c2) ?_|refine gu rfl rfl ?_|with_reducible refine z'j (fun hc=>?_) (fun hc=>?_)|fail
  all_goals first|exact z'r T (z'n _) ⟨rfl,rfl⟩|exact z'r T (z'n _) ⟨by rw[hc];rfl,rfl⟩
 |false=>
  rw[hh]at c1
  rw[show nmQ false s=isE s from rfl]
  repeat' first|refine mq2 (mqt2 @kdR.eq_1 @d1) c1 ?_|fail
  all_goals first|exact z'r T (z'n _) ⟨rfl,rfl⟩|exact z'r T (z'n _) ⟨by rw[hc];rfl,rfl⟩
theorem ZiX (b:Nat) (q:Knd) (hs:q.form.size≤1000) (c:UInt8) (l:List Nod) (hl:l.length≤1000):Fun Tryz.prog 288 [.is (.int .u8 c.toNat),y'4 l,ptB b] (kdH b q) false (fun d H'=>d=bD (exQ (z'S q.form c) l)∧H'=kdH b q):=by
 have c1:=Zij q hs c
 have c2:=ZoI l hl
 refine Fun.of T [.tmp 5] Tryz.func288 rfl Tryz.ntmps288 Tryz.results288 rfl (by kernel_rfl) ?_
 cases hh:z'S q.form c with
 |true=>
  rw[hh]at c1
  rw[show exQ true l=plB l from rfl]
  repeat' first|refine mq2 @kdR.eq_1 (mqt2 c1 c2) ?_|refine gu rfl rfl ?_|with_reducible refine z'j (fun hc=>?_) (fun hc=>?_)|fail
  all_goals first|exact z'r T (z'n _) ⟨rfl,rfl⟩|exact z'r T (z'n _) ⟨by rw[hc];rfl,rfl⟩
 |false=>
  rw[hh]at c1
  rw[show exQ false l=decide (l.length=0) from rfl]
  by_cases h0:l.length=0
  ·have e1:((l.length:Int) == 0)=true:=by simp[h0]
   rw[decide_eq_true h0]
   repeat' first|refine mq2 (mqt3 @kdR.eq_1 @e1 @z'Z) c1 ?_|fail
   exact z'r T (z'n _) ⟨rfl,rfl⟩
  ·have e1:((l.length:Int) == 0)=false:=beq_eq_false_iff_ne.2 (by omega)
   rw[decide_eq_false h0]
   repeat' first|refine mq2 (mqt3 @kdR.eq_1 @e1 @z'Z) c1 ?_|fail
   exact z'r T (z'n _) ⟨rfl,rfl⟩
def Zgo (q:Knd) (x:Sm):Bool:=decide (0≤x.pl)&&((z'S q.form 113|| !x.ne)&&(nmQ (z'S q.form 114) x.reg&&(nmQ (z'S q.form 108) x.loc&&(exQ (z'S q.form 101) x.e&&(exQ (z'S q.form 102) x.f&&((q.bd||decide (x.body=0))&&(q.mr||decide (x.els=0))))))))
theorem ZpC: ∀q,q∈kndT→q.form.size≤1000:=by decide
theorem ZrX (x:Sm) (hk:1≤x.kind∧x.kind≤13) (he:x.e.length≤1000) (hf:x.f.length≤1000):Pure Tryz.prog 264 [.agg (smR x)] (bD (Zgo (kndT.getD x.kind.toNat kd0) x)):=by
 have c0:=ZoG x.kind
 rw[if_pos hk]at c0
 have hl:(kndT.length:Int)=14:=rfl
 have hq:=ZpC _ (z'8 (d:=kd0) (l:=kndT) (i:=x.kind.toNat) (by omega))
 generalize kndT.getD x.kind.toNat kd0=q at*
 have c1:=Zij q hq 113
 have f1:=fun b=>ZiW b q hq 114 x.reg
 have f2:=fun b=>ZiW b q hq 108 x.loc
 have f3:=fun b=>ZiX b q hq 101 x.e he
 have f4:=fun b=>ZiX b q hq 102 x.f hf
 refine Fun.of T [.tmp 2] Tryz.func264 rfl Tryz.ntmps264 Tryz.results264 rfl (by kernel_rfl) ?_
 repeat' first|refine vb rfl rfl rfl rfl ?_|refine vs T rfl fun K hK=>?_;(try simp (disch:=omega) only[go_sem,Nat.reduceBEq,Nat.reduceAdd,Nat.reduceLeDiff,smR,kdR]);(first|refine hK _ _ ?_;clear hK K|intro bq hbq;(try simp only[HB]at hbq);refine hK _ _ ?_;clear hK K|refine Op1.callp rfl rfl (c0) rfl ?_;refine hK _ _ ?_;clear hK K|skip)|refine st rfl ?_|refine nl ?_
 refine w'h (cs:=[.tmp 3]) (us:=[.pointer (some ⟨bq,0,none⟩)]) rfl rfl ?_
 refine hK _ _ ?_
 clear hK K
 repeat' first|refine vs T rfl fun K hK=>?_;(try simp (disch:=omega) only[go_sem,Nat.reduceBEq]);(first|refine hK _ _ ?_;clear hK K|skip)|refine st rfl ?_|refine nl ?_
 refine w'h (cs:=[.tmp 3]) (us:=[.pointer (some ⟨bq,0,none⟩)]) rfl rfl ?_
 refine hK _ _ ?_
 clear hK K
 repeat' first|refine mq3 c1 ?_|refine vs T rfl fun K hK=>?_;(try simp (disch:=omega) only[go_sem,Nat.reduceBEq,Nat.reduceAdd,Nat.reduceLeDiff,z'H]);(first|refine Op1.callC rfl rfl (f1 _) rfl ?_;refine hK _ _ ?_;clear hK K|refine Op1.callC rfl rfl (f2 _) rfl ?_;refine hK _ _ ?_;clear hK K|refine Op1.callC rfl rfl (f3 _) rfl ?_;refine hK _ _ ?_;clear hK K|refine Op1.callC rfl rfl (f4 _) rfl ?_;refine hK _ _ ?_;clear hK K)|refine gu rfl rfl ?_|refine z'r T (z'a _) ?_;(try simp only[upd,Nat.reduceBEq,cond_true,cond_false,and_true])|with_reducible refine z'j (fun hc=>?_) (fun hc=>?_)<;>(try simp only[decide_eq_true_eq,decide_eq_false_iff_not,beq_iff_eq,beq_eq_false_iff_ne,ne_eq,z'y,z'G,z'x]at hc)|fail
 all_goals
  clear c0 c1 f1 f2 f3 f4
  first|(simp_all[Zgo];done)|(simp_all[Zgo];rfl)|(simp_all[Zgo];omega)
theorem Zob (h:Bool) (s:ByteArray):nmQ h s=((h == nmB s)&&(h||isE s)):=by
 cases h with
 |true=>simp[nmQ]
 |false=>
  cases hE:isE s with
  |false=>simp[nmQ,hE]
  |true=>
   have:s=e0:=of_decide_eq_true hE
   subst this
   rw[show nmB e0=false by decide]
   simp[nmQ,hE]
theorem ZnI (h:Bool) (l:List Nod):exQ h l=(match h with|true=>plB l|false=>decide (l.length=0)):=by cases h<;>rfl
theorem Zq5 {q:Knd} {p:ByteArray} {x:Sm} (hp:w'q x.kind=some p) (h1:z'S q.form 114=z'S p 114∧z'S q.form 108=z'S p 108∧z'S q.form 101=z'S p 101∧z'S q.form 102=z'S p 102∧z'S q.form 113=z'S p 110∧q.bd=z'S p 98∧q.mr=z'S p 120):Zgo q x=x'0 x:=by
 obtain⟨a1,a2,a3,a4,a5,a6,a7⟩:=h1
 unfold x'0 Zgo
 rw[hp,a1,a2,a3,a4,a5,a6,a7,Zob,Zob,ZnI,ZnI]
 dsimp only
 generalize z'S p 101=m1
 generalize z'S p 102=m2
 generalize z'S p 110=b3
 generalize z'S p 98=b4
 generalize z'S p 120=b5
 generalize z'S p 114=b6
 generalize z'S p 108=b7
 generalize nmB x.reg=b8
 generalize nmB x.loc=b9
 generalize isE x.reg=c8
 generalize isE x.loc=c9
 cases m1<;>cases m2<;>dsimp only<;>rw[z'9]<;>simp only[z'd]
 all_goals
  constructor
  ·rintro⟨g1,g2,⟨g3,g4⟩,⟨g5,g6⟩,g7,g8,g9,g10⟩
   exact⟨g1,g3,g4,g5,g6,g7,g8,g2,g9,g10⟩
  ·rintro⟨g1,g3,g4,g5,g6,g7,g8,g2,g9,g10⟩
   exact⟨g1,g2,⟨g3,g4⟩,⟨g5,g6⟩,g7,g8,g9,g10⟩
theorem Zq4 (x:Sm) (hk:1≤x.kind∧x.kind≤13):Zgo (kndT.getD x.kind.toNat kd0) x=x'0 x:=by
 have:x.kind=1∨x.kind=2∨x.kind=3∨x.kind=4∨x.kind=5∨x.kind=6∨x.kind=7∨x.kind=8∨x.kind=9∨x.kind=10∨x.kind=11∨x.kind=12∨x.kind=13:=by omega
 rcases this with h|h|h|h|h|h|h|h|h|h|h|h|h<;>(rw[h];exact Zq5 (by rw[h];rfl) (by decide))
theorem Zos {k:Int} (h: ¬(1≤k∧k≤13)):w'q k=none:=by
 unfold w'q
 repeat rw[if_neg (by omega)]
theorem ZoE (x:Sm) (he:x.e.length≤1000) (hf:x.f.length≤1000):Pure Tryz.prog 264 [.agg (smR x)] (bD (x'0 x)):=by
 by_cases hk:1≤x.kind∧x.kind≤13
 ·rw[←Zq4 x hk]
  exact ZrX x hk he hf
 have c0:=ZoG x.kind
 rw[if_neg hk]at c0
 rw[show x'0 x=false by unfold x'0;rw[Zos hk]]
 refine Fun.of T [.tmp 2] Tryz.func264 rfl Tryz.ntmps264 Tryz.results264 rfl (by kernel_rfl) ?_
 repeat' first|refine vb rfl rfl rfl rfl ?_|refine vs T rfl fun K hK=>?_;(try simp (disch:=omega) only[go_sem,Nat.reduceBEq,Nat.reduceAdd,Nat.reduceLeDiff,smR,kdR]);(first|refine hK _ _ ?_;clear hK K|intro bq hbq;(try simp only[HB]at hbq);refine hK _ _ ?_;clear hK K|refine Op1.callp rfl rfl (c0) rfl ?_;refine hK _ _ ?_;clear hK K|skip)|refine st rfl ?_|refine nl ?_
 refine w'h (cs:=[.tmp 3]) (us:=[.pointer (some ⟨bq,0,none⟩)]) rfl rfl ?_
 refine hK _ _ ?_
 clear hK K
 repeat' first|refine vs T rfl fun K hK=>?_;(try simp (disch:=omega) only[go_sem,Nat.reduceBEq]);(first|refine hK _ _ ?_;clear hK K|skip)|refine st rfl ?_|refine nl ?_
 refine w'h (cs:=[.tmp 3]) (us:=[.pointer (some ⟨bq,0,none⟩)]) rfl rfl ?_
 refine hK _ _ ?_
 clear hK K
 repeat' first|refine mq0 ?_|refine gu rfl rfl ?_|exact z'r T (z'a _) ⟨rfl,rfl⟩|fail
end Go.Proofs.YthlkpnjjkgmlkaaGreat
