/- Contracts: what an agent can and does, as the reference says. No condition. -/
import Derived.Test.YthlkpnjjkgmlkaaGreatZr
import Derived.Test.YthlkpnjjkgmlkaaGreatRi
import Derived.Test.YthlkpnjjkgmlkaaGreatTa
import Derived.Test.YthlkpnjjkgmlkaaGreatWa
import Derived.Test.YthlkpnjjkgmlkaaGreatXg
import Derived.Test.YthlkpnjjkgmlkaaGreatYp
namespace Go.Proofs.YthlkpnjjkgmlkaaGreat
set_option maxHeartbeats 16000000
set_option linter.unusedSimpArgs false
set_option linter.unusedVariables false
set_option maxRecDepth 20000
open Go Go.Proofs Go.Vc
attribute [local irreducible] x'v VCg VCw VCx
section
variable {u : Un} {c : Cf} {m r : Int}
theorem ZgO {k:Nat} (h:k<(w'q u m).length):Zjd u m (k:Nat)=some (agF u m k):=by
 have:=(ZnK h).1
 simp[Zjd,this]
theorem Zje {a:Int} (h:a<0∨a≥((w'q u m).length:Int)):Zjd u m a=none:=by
 unfold Zjd
 split
 ·rename_i h0
  have:=of_decide_eq_true h0
  exact z'M (by omega)
 ·rfl
theorem ZoN {k:Nat} (h:k<u.regs.length):agF u m k= .th k:=if_pos h
theorem ZrX {k:Nat} (h:u.regs.length≤k) (h2:m=2):agF u m k= .fl (k-u.regs.length) (-1):=by unfold agF;rw[if_neg (by omega),if_pos h2]
theorem ZrY {k:Nat} (h:u.regs.length≤k) (h2: ¬m=2):agF u m k= .fl ((k-u.regs.length)/u.init.length) (((k-u.regs.length) % u.init.length:Nat):Int):=by unfold agF;rw[if_neg (by omega),if_neg h2]
structure FlN (u:Un) (i:Nat):Prop where
 sub:IntKind.i64.wrap ((i:Int)-(u.regs.length:Int))=((i-u.regs.length:Nat):Int)
 quo:IntKind.i64.wrap (((i-u.regs.length:Nat):Int).tdiv (u.init.length:Int))=(((i-u.regs.length)/u.init.length:Nat):Int)
 rem:(((i-u.regs.length:Nat):Int).tmod (u.init.length:Int))=(((i-u.regs.length) % u.init.length:Nat):Int)
 nz:(u.init.length:Int)≠0
theorem flN {i:Nat} (h:i<(w'q u m).length) (h3:u.regs.length≤i) (m2: ¬m=2):FlN u i:=by
 obtain⟨_,h2,hU⟩:=ZnK h
 obtain⟨_,hc⟩:=(h2 h3).resolve_left m2
 have hl:=Zdp u m
 have hL:0<u.init.length:=by
  rcases w'f u.init.length with h|h
  ·rw[h,Nat.mul_zero]at hc;omega
  ·exact h
 refine⟨by rw[w64 (by omega)];omega,?_,?_,by omega⟩
 ·rw[Zvl (n:=((i-u.regs.length:Nat):Int)) (k:=(u.init.length:Int)) (by omega) (by omega) (by omega)]
  exact(Int.natCast_ediv _ _).symm
 ·rw[Zto (n:=((i-u.regs.length:Nat):Int)) (k:=(u.init.length:Int)) (by omega)]
  exact(Int.natCast_emod _ _).symm
theorem Znr (h:Rt u c m r) (a:Int):Pure Tryz.prog 136 [.agg (unC u),.agg (cfC c),iD m,iD r,iD a] (bD (enM u c m r a)):=by
 have ca:=Ziu u h.okU m
 have hl:=Zdp u m
 refine Fun.of T [.tmp 10] Tryz.func136 rfl Tryz.ntmps136 Tryz.results136 rfl (by kernel_rfl) ?_
 by_cases h1:a<0
 ·have e1:decide (a<0)=true:=by simpa using h1
  rw[show enM u c m r a=false by simp[enM,Zje (.inl h1)]]
  repeat' first|refine vb rfl rfl rfl rfl ?_|refine mq1 (z'X @e1 @z'o) ?_|exact z'p T (z'a _) ⟨rfl,rfl⟩|fail
 have e1:decide (a<0)=false:=by simpa using h1
 by_cases h2:a≥((w'q u m).length:Int)
 ·have e2:decide (a≥((w'q u m).length:Int))=true:=by simpa using h2
  rw[show enM u c m r a=false by simp[enM,Zje (.inr h2)]]
  repeat' first|refine vb rfl rfl rfl rfl ?_|refine mq2 (x'i @e1 @e2 @z'o) ca ?_|exact z'p T (z'a _) ⟨rfl,rfl⟩|fail
 have e2:decide (a≥((w'q u m).length:Int))=false:=by simpa using h2
 obtain⟨i,rfl⟩: ∃i:Nat,a=(i:Int):=⟨a.toNat,by omega⟩
 have hi:i<(w'q u m).length:=by omega
 rw[show enM u c m r (i:Nat)=Ze0 u c m r (agF u m i) by simp[enM,ZgO hi]]
 by_cases h3:i<u.regs.length
 ·have e3:decide ((i:Int)<(u.regs.length:Int))=true:=decide_eq_true (by omega)
  have c1:=Zux h (i:Nat)
  rw[ZoN h3]
  repeat' first|refine vb rfl rfl rfl rfl ?_|refine mq2 (x'f @e1 @e2 @e3 @z'o) (z'X ca c1) ?_|exact z'p T (z'a _) ⟨rfl,rfl⟩|fail
  all_goals rfl
 have e3:decide ((i:Int)<(u.regs.length:Int))=false:=decide_eq_false (by omega)
 by_cases m2:m=2
 ·have f2:(m == 2)=true:=by simpa using m2
  have hw:IntKind.i64.wrap ((i:Int)-(u.regs.length:Int))=((i-u.regs.length:Nat):Int):=by rw[w64 (by omega)];omega
  have c1:=Zeq c h.okC.buf m ((i-u.regs.length:Nat):Int) (-1)
  rw[ZrX (by omega) m2]
  repeat' first|refine vb rfl rfl rfl rfl ?_|refine mq2 (x'V @e1 @e2 @e3 @hw @f2 @z'o) (z'X ca c1) ?_|exact z'p T (z'a _) ⟨rfl,rfl⟩|fail
  all_goals rfl
 have f2:(m == 2)=false:=by simpa using m2
 obtain⟨hw,hq,hr,hnz⟩:=flN hi (by omega) m2
 have c1:=Zeq c h.okC.buf m (((i-u.regs.length)/u.init.length:Nat):Int) (((i-u.regs.length) % u.init.length:Nat):Int)
 rw[ZrY (by omega) m2]
 repeat' first|refine vb rfl rfl rfl rfl ?_|refine dr (id:=8) T 16 (by kernel_rfl) ?_|(apply VCg.step T rfl rfl);focus((try simp (disch:=omega) only[go_sem,Nat.reduceBEq,Nat.reduceAdd,Nat.reduceLeDiff,hw,hq,hr,z'o]);(first|exact rfl|refine⟨?_,rfl⟩;try omega))|refine mq2 (y'Z @e1 @e2 @e3 @f2 @z'o) (z'X ca c1) ?_|exact z'p T (z'a _) ⟨rfl,rfl⟩|fail
 all_goals rfl
theorem Zrt (h:Rt u c m r) (a:Int):Pure Tryz.prog 77 [.agg (unC u),.agg (cfC c),iD m,iD r,iD a] (.tup [.agg (cfC (actM u c m r a)),bD (enM u c m r a)]):=by
 have ce:=Znr h a
 have hl:=Zdp u m
 refine Fun.of T [.cell 10 69,.tmp 11] Tryz.func77 rfl Tryz.ntmps77 Tryz.results77 rfl (by kernel_rfl) ?_
 cases hE:enM u c m r a with
 |false=>
  rw[hE]at ce
  have cc:=ZjZ c h.okC
  rw[Zsf hE]
  repeat' first|refine vb rfl rfl rfl rfl ?_|refine mq2 @z'o (z'X ce cc) ?_|refine mqn fun bq hbq=>?_|exact x'8 T rfl (by(simp (disch:=omega) only[hget_eq])<;>rfl) rfl rfl rfl (z'a _) ⟨rfl,rfl⟩|fail
 |true=>
 rw[hE]at ce
 have h12: ¬(a<0∨a≥((w'q u m).length:Int)):=fun h'=>by simp[enM,Zje h']at hE
 obtain⟨i,rfl⟩: ∃i:Nat,a=(i:Int):=⟨a.toNat,by omega⟩
 have hi:i<(w'q u m).length:=by omega
 have hC:Ze0 u c m r (agF u m i)=true:=by simpa[enM,ZgO hi]using hE
 rw[show actM u c m r (i:Nat)=ZtK u c m r (agF u m i) by simp[actM,ZgO hi]]
 by_cases h3:i<u.regs.length
 ·have e3:decide ((i:Int)<(u.regs.length:Int))=true:=decide_eq_true (by omega)
  have c1:=Ztj h (i:Nat)
  rw[ZoN h3]at hC⊢
  have hC:enT u c m r (i:Nat)=true:=hC
  rw[hC]at c1
  repeat' first|refine vb rfl rfl rfl rfl ?_|refine mq2 (z'X @e3 @z'o) (z'X ce c1) ?_|refine mqn fun bq hbq=>?_|exact x'8 T rfl (by(simp (disch:=omega) only[hget_eq])<;>rfl) rfl rfl rfl (z'a _) ⟨rfl,rfl⟩|fail
  all_goals rfl
 have e3:decide ((i:Int)<(u.regs.length:Int))=false:=decide_eq_false (by omega)
 by_cases m2:m=2
 ·have f2:(m == 2)=true:=by simpa using m2
  have hw:IntKind.i64.wrap ((i:Int)-(u.regs.length:Int))=((i-u.regs.length:Nat):Int):=by rw[w64 (by omega)];omega
  have c1:=Zj2 c h.okC h.locs m ((i-u.regs.length:Nat):Int) (-1)
  rw[ZrX (by omega) m2]at hC⊢
  have hC:w'K c m ((i-u.regs.length:Nat):Int) (-1)=true:=hC
  rw[hC]at c1
  repeat' first|refine vb rfl rfl rfl rfl ?_|refine mq2 (x'f @e3 @hw @f2 @z'o) (z'X ce c1) ?_|refine mqn fun bq hbq=>?_|exact x'8 T rfl (by(simp (disch:=omega) only[hget_eq])<;>rfl) rfl rfl rfl (z'a _) ⟨rfl,rfl⟩|fail
  all_goals rfl
 have f2:(m == 2)=false:=by simpa using m2
 obtain⟨hw,hq,hr,hnz⟩:=flN hi (by omega) m2
 have c1:=Zj2 c h.okC h.locs m (((i-u.regs.length)/u.init.length:Nat):Int) (((i-u.regs.length) % u.init.length:Nat):Int)
 rw[ZrY (by omega) m2]at hC⊢
 have hC:w'K c m (((i-u.regs.length)/u.init.length:Nat):Int) (((i-u.regs.length) % u.init.length:Nat):Int)=true:=hC
 rw[hC]at c1
 repeat' first|refine vb rfl rfl rfl rfl ?_|refine dr (id:=8) T 19 (by kernel_rfl) ?_|apply VCg.step T rfl rfl;focus((try simp (disch:=omega) only[go_sem,Nat.reduceBEq,Nat.reduceAdd,Nat.reduceLeDiff,hw,hq,hr,z'o]);(first|exact rfl|refine⟨?_,rfl⟩;try omega|refine Op1.callp rfl rfl (c1) rfl ?_;exact⟨rfl,rfl⟩))|refine mq2 (x'i @e3 @f2 @z'o) ce ?_|refine mqn fun bq hbq=>?_|exact x'8 T rfl (by(simp (disch:=omega) only[hget_eq])<;>rfl) rfl rfl rfl (z'a _) ⟨rfl,rfl⟩|fail
 all_goals rfl
theorem ZtS {k:Nat} (h:k<(w'q u m).length):enM u c m r (k:Nat)=Ze0 u c m r (agF u m k):=by simp[enM,ZgO h]
theorem ZpR (h:Rt u c m r):Pure Tryz.prog 93 [.agg (unC u),.agg (cfC c),iD m,iD r] (y'r (Zb4 u c m r)):=by
 have ca:=Ziu u h.okU m
 have hl:=Zdp u m
 have hat: ∀k:Nat,k<(w'q u m).length→(w'q u m)[k]?=some (agF u m k)∧enM u c m r (k:Nat)=Ze0 u c m r (agF u m k):=fun k hk=>⟨(ZnK hk).1,ZtS hk⟩
 unfold Zb4
 generalize w'q u m=A at*
 refine Fun.freeze (ZeI _) ?_
 refine Fun.of T [.tmp 8] Tryz.func93 rfl Tryz.ntmps93 Tryz.results93 rfl (by kernel_rfl) ?_
 repeat' first|refine vb rfl rfl rfl rfl ?_|refine mq0 ?_|fail
 refine VC.loop {p:Nat×List Int×Option (Nat×Nat)//p.1≤A.length∧p.2.1=mvK u c m r A p.1} (fun p=>⟨z'T [(2,iD m),(3,iD r),(4,.pt (unC u)),(5,.pt (cfC c)),(9,.gs p.1.2.2 p.1.2.1.length),(10,iD (p.1.1:Nat))],shp p.1.2.2 3 1 (p.1.2.1.map iD) []⟩) (fun p=>A.length-p.1.1) ⟨(0,[],none),by dsimp only;omega,rfl⟩ ?_ ?_
 ·refine Weak.sub ?_
  simp[sub,upd]
 rintro⟨⟨k,L,g⟩,hk,hL⟩
 dsimp only at hk hL⊢
 have hLl:L.length≤k:=by rw[hL];exact Znd
 rcases z'i k A.length with hlt|hge
 case inr=>
  obtain rfl:k=A.length:=by omega
  have hd:decide ((A.length:Int)<(A.length:Int))=false:=by simp
  repeat' first|refine mq2 @hd ca ?_|fail
  exact z'p T (z'v _) ⟨g,3,by rw[←hL,z'o];rfl,by rw[←hL,Zfs]⟩
 have hd:decide ((k:Int)<(A.length:Int))=true:=by simp;omega
 have hw:IntKind.i64.wrap ((k:Int)+1)=((k+1:Nat):Int):=by rw[w64 (by omega)];omega
 obtain⟨ha,he⟩:=hat k hlt
 have cn:=Znr h (k:Nat)
 rw[he]at cn
 cases hE:Ze0 u c m r (agF u m k)with
 |false=>
  rw[hE]at cn
  repeat' first|refine mq2 (z'X @hd @hw) (z'X ca cn) ?_|fail
  refine⟨⟨(k+1,L,g),by dsimp only;omega,by dsimp only;rw[ZlH ha,hE,hL];simp⟩,z'Q rfl ?_,by dsimp only;omega⟩
  simp[sub,upd]
 |true=>
  rw[hE]at cn
  repeat' first|refine mq2 (z'X @hd @hw) (z'X ca cn) ?_|refine vs T rfl fun K hK=>?_;(try simp (disch:=omega) only[go_sem,Nat.reduceBEq,Nat.reduceAdd,Nat.reduceMul,Nat.reduceLeDiff,hd,hw]);(first|refine⟨_,_,_,_,(by repeat (exact Sp.here)),?_,(by exact⟨rfl,rfl⟩),⟨by decide,?_⟩,fun g' hg'=>hK _ _ ?_⟩<;>clear hK K)|fail
  ·simp
  ·omega
  ·refine⟨⟨(k+1,L++[(k:Int)],g'),by dsimp only;omega,by dsimp only;rw[ZlH ha,hE,hL]⟩,z'Q ?_ ?_,by dsimp only;omega⟩
   ·dsimp only
    rw[z'E]
    rfl
   ·simp[sub,upd]
end
def cf0:Cf:=⟨[],[],[],[]⟩
def Zdr (u:Un):Cf:=match x'd u with|true=>x'3 u|false=>cf0
def Zds (u:Un):Int:=match x'd u with|true=>0|false=>8
theorem ZtU {H:Heap} {d' d:D} (h:Fz H d' d):Fz H (.tup [.agg (cfC cf0),d']) (.tup [.agg [.gs none 0,.gs none 0,.gs none 0,.gs none 0],d]):=
 ⟨_,rfl,z'u ⟨_,rfl,z'u z'1 (z'u z'1 (z'u z'1 (z'u z'1 x'9)))⟩ (z'u h x'9)⟩
section
variable {u : Un} {c : Cf} {m r : Int} (b : Nat)
end
end Go.Proofs.YthlkpnjjkgmlkaaGreat
/- Calls through method values. No condition. -/
namespace Go.Vc
set_option maxHeartbeats 16000000
set_option linter.unusedSimpArgs false
set_option linter.unusedVariables false
open Go
end Go.Vc
/- Contracts: what is seen on a circle. No condition. -/
namespace Go.Proofs.YthlkpnjjkgmlkaaGreat
set_option maxHeartbeats 16000000
set_option linter.unusedSimpArgs false
set_option linter.unusedVariables false
set_option maxRecDepth 20000
open Go Go.Proofs Go.Vc
attribute [local irreducible] x'v VCg VCw VCx
theorem Zgm (u:Un) (hu:OkU u):Pure Tryz.prog 76 [.agg (unC u)] (.tup [.agg (cfC (Zdr u)),iD (Zds u)]):=by
 cases hU:x'd u with
 |true=>
  rw[show Zdr u=x'3 u by simp[Zdr,hU],show Zds u=0 by simp[Zds,hU]]
  exact ZrJ u hu hU
 |false=>
 have cu:=ZfD u hu
 rw[hU]at cu
 rw[show Zdr u=cf0 by simp[Zdr,hU],show Zds u=8 by simp[Zds,hU]]
 refine Fun.fz ?_
 refine Fun.of T [.cell 2 69,.tmp 3] Tryz.func76 rfl Tryz.ntmps76 Tryz.results76 rfl (by kernel_rfl) ?_
 repeat' first|refine vb (t:=32) rfl rfl rfl rfl ?_|refine mq3 cu ?_|refine mqn fun bq hbq=>?_|fail
 exact x'8 T rfl hget_eq rfl rfl rfl (z'a _) (ZtU (Fz.refl _ _))
section
variable {u : Un} {c : Cf} {m r : Int}
end
theorem ZrG {a b:Cf} (h:v'c a b=true):b=a:=by
 simp only[v'c,z'f,decide_eq_true_eq]at h
 obtain⟨h1,h2,h3,h4⟩:=h
 cases a;cases b
 simp_all
end Go.Proofs.YthlkpnjjkgmlkaaGreat
