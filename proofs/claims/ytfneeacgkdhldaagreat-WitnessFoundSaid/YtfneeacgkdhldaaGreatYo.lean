/- Contracts: whether a unit can be. No condition. -/
import Derived.Test.YtfneeacgkdhldaaGreatXa
import Derived.Test.YtfneeacgkdhldaaGreatYl
import Derived.Test.YtfneeacgkdhldaaGreatXe
namespace Go.Proofs.YtfneeacgkdhldaaGreat
set_option maxHeartbeats 16000000
set_option linter.unusedSimpArgs false
set_option linter.unusedVariables false
set_option maxRecDepth 20000
open Go Go.Proofs Go.Vc
attribute [local irreducible] y'5 VCg VCw VCx
structure OkU (u:Un):Prop where
 ini:u.init.length≤1000
 reg:u.regs.length≤1000
 cod:u.code.length≤1000
 row: ∀r,r∈u.code→r.length≤100000
 ins: ∀r,r∈u.code→ ∀x,x∈r→x.e.length≤1000∧x.f.length≤1000
instance:Inhabited Ins:=⟨⟨0,0,0,[],[],false,0⟩⟩
def v'D (regs locs:Int) (r:List Ins):Bool:=
 (decide (0≤regs)&&decide (regs≤6)&&decide (1≤r.length)&&decide (r.length≤1000)&&w'G (r.getD (r.length-1) default))&&((List.range (r.length-1)).all fun i=>x'V (r.getD i default) regs locs r.length)
def w'H (u:Un):Bool:=decide (2≤u.md)&&decide (u.md≤16)&&y'W u.init u.md&&decide (u.init.length≤6)&&decide (1≤u.regs.length)&&decide (u.regs.length≤4)&&decide (u.code.length=u.regs.length)
def y't (u:Un):Bool:=w'H u&&((List.range u.regs.length).all fun t=>v'D (u.regs.getD t 0) u.init.length (u.code.getD t []))
theorem ZcN {n:Nat} {p:Nat→Bool} (h: ∀i,i<n→p i=true):(List.range n).all p=true:=by
 rw[z'I]
 intro x hx
 exact h x (z'G.1 hx)
theorem ZcO {n i:Nat} {p:Nat→Bool} (hi:i<n) (h:p i=false):(List.range n).all p=false:=by
 rw[List.all_eq_false]
 exact⟨i,z'G.2 hi,by simp[h]⟩
theorem ZdF (u:Un) (hu:OkU u):Pure Tryz.prog 25 [.agg (unC u)] (bD (y't u)):=by
 have k1:=hu.ini
 have k2:=hu.reg
 have k3:=hu.cod
 have ca:=Zdl u.init (by omega) u.md
 have no:w'H u=false→y't u=false:=fun h=>by unfold y't;rw[h];rfl
 refine Fun.of T [.tmp 2] Tryz.func25 rfl Tryz.ntmps25 Tryz.results25 rfl (by kernel_rfl) ?_
 by_cases g0:u.md<2
 ·have d0:decide (u.md<2)=true:=by simpa using g0
  rw[no (by simp[w'H];omega)]
  repeat' first|refine vb rfl rfl rfl rfl ?_|refine vs T rfl fun K hK=>?_;(try simp (disch:=omega) only[go_sem,Nat.reduceBEq,d0]);(refine hK _ _ ?_;clear hK K)|refine st rfl ?_|refine sc rfl ?_|refine nl ?_|refine gs rfl rfl ?_|exact z'n T (z'a _) ⟨rfl,rfl⟩
 have d0:decide (u.md<2)=false:=by simpa using g0
 by_cases g1:u.md>16
 ·have d1:decide (u.md>16)=true:=by simpa using g1
  rw[no (by simp[w'H];omega)]
  repeat' first|refine vb rfl rfl rfl rfl ?_|refine vs T rfl fun K hK=>?_;(try simp (disch:=omega) only[go_sem,Nat.reduceBEq,d0,d1]);(refine hK _ _ ?_;clear hK K)|refine st rfl ?_|refine sc rfl ?_|refine nl ?_|refine gs rfl rfl ?_|exact z'n T (z'a _) ⟨rfl,rfl⟩
 have d1:decide (u.md>16)=false:=by simpa using g1
 cases hal:y'W u.init u.md with
 |false=>
  rw[no (by simp[w'H,hal])]
  repeat' first|refine vb rfl rfl rfl rfl ?_|refine vs T rfl fun K hK=>?_;(try simp (disch:=omega) only[go_sem,Nat.reduceBEq,d0,d1,hal,z'r]);(first|refine hK _ _ ?_;clear hK K|refine Op1.callp rfl rfl (ca) rfl ?_;refine hK _ _ ?_;clear hK K)|refine st rfl ?_|refine sc rfl ?_|refine nl ?_|refine gs rfl rfl ?_|exact z'n T (z'a _) ⟨rfl,rfl⟩
 |true=>
 by_cases g3:(u.init.length:Int)>6
 ·have d3:decide ((u.init.length:Int)>6)=true:=by simpa using g3
  rw[no (by simp[w'H];omega)]
  repeat' first|refine vb rfl rfl rfl rfl ?_|refine vs T rfl fun K hK=>?_;(try simp (disch:=omega) only[go_sem,Nat.reduceBEq,d0,d1,hal,d3,z'l,z'k]);(first|refine hK _ _ ?_;clear hK K|refine Op1.callp rfl rfl (ca) rfl ?_;refine hK _ _ ?_;clear hK K)|refine st rfl ?_|refine sc rfl ?_|refine nl ?_|refine gs rfl rfl ?_|exact z'n T (z'a _) ⟨rfl,rfl⟩
 have d3:decide ((u.init.length:Int)>6)=false:=by simpa using g3
 by_cases g4:(u.regs.length:Int)<1
 ·have d4:decide ((u.regs.length:Int)<1)=true:=by simpa using g4
  rw[no (by simp[w'H];omega)]
  repeat' first|refine vb rfl rfl rfl rfl ?_|refine vs T rfl fun K hK=>?_;(try simp (disch:=omega) only[go_sem,Nat.reduceBEq,d0,d1,hal,d3,d4,z'l,z'k]);(first|refine hK _ _ ?_;clear hK K|refine Op1.callp rfl rfl (ca) rfl ?_;refine hK _ _ ?_;clear hK K)|refine st rfl ?_|refine sc rfl ?_|refine nl ?_|refine gs rfl rfl ?_|exact z'n T (z'a _) ⟨rfl,rfl⟩
 have d4:decide ((u.regs.length:Int)<1)=false:=by simpa using g4
 by_cases g5:(u.regs.length:Int)>4
 ·have d5:decide ((u.regs.length:Int)>4)=true:=by simpa using g5
  rw[no (by simp[w'H];omega)]
  repeat' first|refine vb rfl rfl rfl rfl ?_|refine vs T rfl fun K hK=>?_;(try simp (disch:=omega) only[go_sem,Nat.reduceBEq,d0,d1,hal,d3,d4,d5,z'l,z'k]);(first|refine hK _ _ ?_;clear hK K|refine Op1.callp rfl rfl (ca) rfl ?_;refine hK _ _ ?_;clear hK K)|refine st rfl ?_|refine sc rfl ?_|refine nl ?_|refine gs rfl rfl ?_|exact z'n T (z'a _) ⟨rfl,rfl⟩
 have d5:decide ((u.regs.length:Int)>4)=false:=by simpa using g5
 by_cases g6:(u.code.length:Int)≠(u.regs.length:Int)
 ·have d6:((u.code.length:Int) != (u.regs.length:Int))=true:=by simpa using g6
  rw[no (by simp[w'H];omega)]
  repeat' first|refine vb rfl rfl rfl rfl ?_|refine vs T rfl fun K hK=>?_;(try simp (disch:=omega) only[go_sem,Nat.reduceBEq,d0,d1,hal,d3,d4,d5,d6,z'l,z'k,z'Q]);(first|refine hK _ _ ?_;clear hK K|refine Op1.callp rfl rfl (ca) rfl ?_;refine hK _ _ ?_;clear hK K)|refine st rfl ?_|refine sc rfl ?_|refine nl ?_|refine gs rfl rfl ?_|exact z'n T (z'a _) ⟨rfl,rfl⟩
 have d6:((u.code.length:Int) != (u.regs.length:Int))=false:=by simpa using g6
 have hH:w'H u=true:=by simp[w'H,hal];omega
 have hU:y't u=(List.range u.regs.length).all fun t=>v'D (u.regs.getD t 0) u.init.length (u.code.getD t []):=by unfold y't;rw[hH];rfl
 have hcl:u.code.length=u.regs.length:=by omega
 repeat' first|refine vb rfl rfl rfl rfl ?_|refine vs T rfl fun K hK=>?_;(try simp (disch:=omega) only[go_sem,Nat.reduceBEq,d0,d1,hal,d3,d4,d5,d6,z'l,z'k,z'Q]);(first|refine hK _ _ ?_;clear hK K|refine Op1.callp rfl rfl (ca) rfl ?_;refine hK _ _ ?_;clear hK K)|refine st rfl ?_|refine sc rfl ?_|refine nl ?_|refine gs rfl rfl ?_
 refine VC.loop {t:Nat//t≤u.regs.length∧ ∀j,j<t→v'D (u.regs.getD j 0) u.init.length (u.code.getD j [])=true} (fun p=>⟨z'J [(1,.pt (unC u)),(3,iD (p.1:Nat))],[]⟩) (fun p=>u.regs.length-p.1) ⟨0,by omega,fun j hj=>by omega⟩ ?_ ?_
 ·refine Weak.sub ?_
  simp[sub,upd]
 rintro⟨t,ht,hs⟩
 dsimp only
 rcases z'g t u.regs.length with hlt|hge
 case inr=>
  have hd:decide ((t:Int)<(u.regs.length:Int))=false:=by simp;omega
  have hr:y't u=true:=by rw[hU];exact ZcN fun i hi=>hs i (by omega)
  rw[hr]
  repeat' first|refine vs T rfl fun K hK=>?_;(try simp (disch:=omega) only[go_sem,Nat.reduceBEq,hd,z'k]);(refine hK _ _ ?_;clear hK K)|refine st rfl ?_|refine sc rfl ?_|refine nl ?_|exact z'n T (z'a _) ⟨rfl,rfl⟩
 have hd:decide ((t:Int)<(u.regs.length:Int))=true:=by simp;omega
 have hw:IntKind.i64.wrap ((t:Int)+1)=((t+1:Nat):Int):=by rw[w64 (by omega)];omega
 obtain⟨n,hn⟩: ∃n,u.regs[t]?=some n:=⟨_,z'b hlt⟩
 obtain⟨r,hr⟩: ∃r,u.code[t]?=some r:=⟨_,z'b (by omega)⟩
 have rn:(iRs u.regs)[t]?=some [iD n]:=by rw[y'Q,hn];rfl
 have rr:(x'9 u.code)[t]?=some [.sl false 7 (y'P r)]:=by rw[x'O,hr];rfl
 have hrm:=z'h hr
 have hrl:=hu.row r hrm
 have hins:=hu.ins r hrm
 have hgn:u.regs.getD t 0=n:=by rw[z'e,hn];rfl
 have hgr:u.code.getD t []=r:=by rw[z'e,hr];rfl
 have bad:v'D n u.init.length r=false→y't u=false:=fun h=>by rw[hU];exact ZcO hlt (by rw[hgn,hgr];exact h)
 have htc:t<u.code.length:=by omega
 have F:True:=trivial
 by_cases q0:n<0
 ·have s0:decide (n<0)=true:=by simpa using q0
  rw[bad (by simp[v'D];omega)]
  repeat' first|refine vs T rfl fun K hK=>?_;(try simp (disch:=omega) only[go_sem,Nat.reduceBEq,hd,rn,rr,s0,z'k,z'Q]);(first|refine hK _ _ ?_;clear hK K|refine⟨?_,hK _ _ ?_⟩<;>clear hK K;focus(try omega))|refine st rfl ?_|refine sc rfl ?_|refine nl ?_|refine gs rfl rfl ?_|exact z'n T (z'a _) ⟨rfl,rfl⟩
 have s0:decide (n<0)=false:=by simpa using q0
 by_cases q1:n>6
 ·have s1:decide (n>6)=true:=by simpa using q1
  rw[bad (by simp[v'D];omega)]
  repeat' first|refine vs T rfl fun K hK=>?_;(try simp (disch:=omega) only[go_sem,Nat.reduceBEq,hd,rn,rr,s0,s1,z'k,z'Q]);(first|refine hK _ _ ?_;clear hK K|refine⟨?_,hK _ _ ?_⟩<;>clear hK K;focus(try omega))|refine st rfl ?_|refine sc rfl ?_|refine nl ?_|refine gs rfl rfl ?_|exact z'n T (z'a _) ⟨rfl,rfl⟩
 have s1:decide (n>6)=false:=by simpa using q1
 by_cases q2:(r.length:Int)<1
 ·have s2:decide ((r.length:Int)<1)=true:=by simpa using q2
  rw[bad (by simp[v'D];omega)]
  repeat' first|refine vs T rfl fun K hK=>?_;(try simp (disch:=omega) only[go_sem,Nat.reduceBEq,hd,rn,rr,s0,s1,s2,z'k,z'Q,z'7]);(first|refine hK _ _ ?_;clear hK K|refine⟨?_,hK _ _ ?_⟩<;>clear hK K;focus(try omega))|refine st rfl ?_|refine sc rfl ?_|refine nl ?_|refine gs rfl rfl ?_|exact z'n T (z'a _) ⟨rfl,rfl⟩
 have s2:decide ((r.length:Int)<1)=false:=by simpa using q2
 by_cases q3:(r.length:Int)>1000
 ·have s3:decide ((r.length:Int)>1000)=true:=by simpa using q3
  rw[bad (by simp[v'D];omega)]
  repeat' first|refine vs T rfl fun K hK=>?_;(try simp (disch:=omega) only[go_sem,Nat.reduceBEq,hd,rn,rr,s0,s1,s2,s3,z'k,z'Q,z'7]);(first|refine hK _ _ ?_;clear hK K|refine⟨?_,hK _ _ ?_⟩<;>clear hK K;focus(try omega))|refine st rfl ?_|refine sc rfl ?_|refine nl ?_|refine gs rfl rfl ?_|exact z'n T (z'a _) ⟨rfl,rfl⟩
 have s3:decide ((r.length:Int)>1000)=false:=by simpa using q3
 have hwl:IntKind.i64.wrap ((r.length:Int)-1)=((r.length-1:Nat):Int):=by rw[w64 (by omega)];omega
 obtain⟨xl,hxl⟩: ∃x,r[r.length-1]?=some x:=⟨_,z'b (by omega)⟩
 have rx:(y'P r)[r.length-1]?=some [iD xl.op,iD xl.reg,iD xl.loc,z'S xl.e,z'S xl.f,bD xl.ne,iD xl.to]:=by rw[x'Q,hxl];rfl
 have hgl:r.getD (r.length-1) default=xl:=by rw[z'e,hxl];rfl
 have cd:=ZkC xl
 cases hdn:w'G xl with
 |false=>
  rw[bad (by simp only[v'D,hgl,hdn,w's,y'p])]
  rw[hdn]at cd
  repeat' first|refine vs T rfl fun K hK=>?_;(try simp (disch:=omega) only[go_sem,Nat.reduceBEq,Nat.reduceAdd,Nat.reduceLeDiff,hd,rn,rr,s0,s1,s2,s3,hwl,rx,z'r,z'k,z'Q,z'7]);(first|refine hK _ _ ?_;clear hK K|refine⟨?_,hK _ _ ?_⟩<;>clear hK K;focus(try omega)|refine Op1.callp rfl rfl (cd) rfl ?_;refine hK _ _ ?_;clear hK K)|refine st rfl ?_|refine sc rfl ?_|refine nl ?_|refine gs rfl rfl ?_|exact z'n T (z'a _) ⟨rfl,rfl⟩
 |true=>
 rw[hdn]at cd
 have hRow:v'D n u.init.length r=(List.range (r.length-1)).all fun i=>x'V (r.getD i default) n u.init.length r.length:=by
  unfold v'D
  rw[hgl,hdn]
  have:(decide (0≤n)&&decide (n≤6)&&decide (1≤r.length)&&decide (r.length≤1000)&&true)=true:=by simp;omega
  rw[this];rfl
 repeat' first|refine vs T rfl fun K hK=>?_;(try simp (disch:=omega) only[go_sem,Nat.reduceBEq,Nat.reduceAdd,Nat.reduceLeDiff,hd,rn,rr,s0,s1,s2,s3,hwl,rx,z'l,z'k,z'Q,z'7]);(first|refine hK _ _ ?_;clear hK K|refine⟨?_,hK _ _ ?_⟩<;>clear hK K;focus(try omega)|refine Op1.callp rfl rfl (cd) rfl ?_;refine hK _ _ ?_;clear hK K)|refine st rfl ?_|refine sc rfl ?_|refine nl ?_|refine gs rfl rfl ?_
 refine VC.loop {i:Nat//i≤r.length-1∧ ∀j,j<i→x'V (r.getD j default) n u.init.length r.length=true} (fun p=>⟨z'J [(1,.pt (unC u)),(3,iD (t:Nat)),(4,.sl false 7 (y'P r)),(5,iD (p.1:Nat))],[]⟩) (fun p=>r.length-p.1) ⟨0,by omega,fun j hj=>by omega⟩ ?_ ?_
 ·refine Weak.sub ?_
  simp[sub,upd]
 rintro⟨i,hi,hsi⟩
 dsimp only
 have hwi:IntKind.i64.wrap ((i:Int)+1)=((i+1:Nat):Int):=by rw[w64 (by omega)];omega
 rcases z'g i (r.length-1)with hlt2|hge2
 case inr=>
  have hd2:decide (((i+1:Nat):Int)<(r.length:Int))=false:=by simp;omega
  have hro:v'D n u.init.length r=true:=by rw[hRow];exact ZcN fun j hj=>hsi j (by omega)
  repeat' first|refine vs T rfl fun K hK=>?_;(try simp (disch:=omega) only[go_sem,Nat.reduceBEq,hd2,hwi,hw,z'7]);(refine hK _ _ ?_;clear hK K)|refine st rfl ?_|refine sc rfl ?_|refine nl ?_
  refine⟨⟨t+1,by omega,fun j hj=>?_⟩,Weak.sub ?_,by simp only[];omega⟩
  ·rcases z'g j t with h'|h'
   ·exact hs j h'
   ·obtain rfl:j=t:=by omega
    rw[hgn,hgr];exact hro
  ·simp[sub,upd]
 have hd2:decide (((i+1:Nat):Int)<(r.length:Int))=true:=by simp;omega
 obtain⟨x,hx⟩: ∃x,r[i]?=some x:=⟨_,z'b (by omega)⟩
 have rx2:(y'P r)[i]?=some [iD x.op,iD x.reg,iD x.loc,z'S x.e,z'S x.f,bD x.ne,iD x.to]:=by rw[x'Q,hx];rfl
 have hgx:r.getD i default=x:=by rw[z'e,hx];rfl
 have hef:=hins x (z'h hx)
 have co:=Zmq x hef.1 hef.2 n u.init.length r.length
 have hil:i<r.length:=by omega
 cases hO:x'V x n u.init.length r.length with
 |false=>
  rw[hO]at co
  rw[bad (by rw[hRow];exact ZcO hlt2 (by rw[hgx];exact hO))]
  repeat' first|refine dr (id:=12) T 14 (by kernel_rfl) ?_|refine gn ?_|(apply VCg.step T rfl rfl);focus((try simp (disch:=omega) only[go_sem,Nat.reduceBEq,Nat.reduceAdd,Nat.reduceLeDiff,rn,rx2,z'k,z'7]);(first|exact rfl|refine⟨?_,rfl⟩;try omega))|refine vs T rfl fun K hK=>?_;(try simp (disch:=omega) only[go_sem,Nat.reduceBEq,hd2,hwi,z'r,z'7]);(first|refine hK _ _ ?_;clear hK K|refine Op1.callp rfl rfl (co) rfl ?_;refine hK _ _ ?_;clear hK K)|refine st rfl ?_|refine sc rfl ?_|refine nl ?_|exact z'n T (z'a _) ⟨rfl,rfl⟩
 |true=>
  rw[hO]at co
  repeat' first|refine dr (id:=12) T 14 (by kernel_rfl) ?_|refine gn ?_|(first|apply VCg.step T rfl rfl|apply exF);focus((try simp (disch:=omega) only[go_sem,Nat.reduceBEq,Nat.reduceAdd,Nat.reduceLeDiff,rn,rx2,z'k,z'7]);(first|exact rfl|refine⟨?_,rfl⟩;try omega))|refine vs T rfl fun K hK=>?_;(try simp (disch:=omega) only[go_sem,Nat.reduceBEq,hd2,hwi,z'l,z'7]);(first|refine hK _ _ ?_;clear hK K|refine Op1.callp rfl rfl (co) rfl ?_;refine hK _ _ ?_;clear hK K)|refine st rfl ?_|refine sc rfl ?_|refine nl ?_
  refine⟨⟨i+1,by omega,fun j hj=>?_⟩,Weak.sub ?_,by simp only[];omega⟩
  ·rcases z'g j i with h'|h'
   ·exact hsi j h'
   ·obtain rfl:j=i:=by omega
    rw[hgx];exact hO
  ·simp[sub,upd]
end Go.Proofs.YtfneeacgkdhldaaGreat
