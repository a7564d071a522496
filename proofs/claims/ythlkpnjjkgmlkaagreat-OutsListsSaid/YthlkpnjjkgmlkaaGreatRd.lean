/- Contracts: the program's check of a row, and of a unit. No condition. -/
import Derived.Test.YthlkpnjjkgmlkaaGreatRc
import Derived.Test.YthlkpnjjkgmlkaaGreatYla
namespace Go.Proofs.YthlkpnjjkgmlkaaGreat
set_option maxHeartbeats 16000000
set_option linter.unusedSimpArgs false
set_option linter.unusedVariables false
set_option maxRecDepth 20000
open Go Go.Proofs Go.Vc
attribute [local irreducible] x'c VCg VCw VCx
theorem Zqy (b:List Ins) (k:Nat):(w'o b).take k=w'o (b.take k):=by rw[w'o,w'o,List.map_take]
def Zbw (n locs:Int) (r:List Ins):Bool:=(decide (1≤r.length)&&decide (r.length≤1000)&&Zef (r.getD (r.length-1) default))&&((List.range (r.length-1)).all fun i=>v'h (r.getD i default) n locs r.length)
theorem ZhS (n locs:Int) (r:List Ins):Zcr n locs r=(decide (0≤n)&&decide (n≤6)&&Zbw n locs r):=by
 unfold Zcr Zbw
 simp only[Bool.and_assoc]
theorem ZsM (r:List Ins) (hrl:r.length≤100000) (hins: ∀x,x∈r→x.e.length≤1000∧x.f.length≤1000) (n locs:Int):Pure Tryz.prog 64 [.sl false 7 (w'o r),iD n,iD locs] (bD (Zbw n locs r)):=by
 have hwl:IntKind.i64.wrap ((r.length:Int)-1)=(r.length:Int)-1:=by rw[w64 (by omega)]
 refine Fun.of T [.tmp 6] Tryz.func64 rfl Tryz.ntmps64 Tryz.results64 rfl (by kernel_rfl) ?_
 by_cases q0:r.length=0
 ·have s0:decide ((r.length:Int)-1<0)=true:=by simp;omega
  rw[show Zbw n locs r=false by simp[Zbw,q0]]
  repeat' first|refine vs T rfl fun K hK=>?_;(try simp (disch:=omega) only[go_sem,Nat.reduceBEq,Nat.reduceAdd,hwl,s0,x'W]);(refine hK _ _ ?_;clear hK K)|refine st rfl ?_|refine sc rfl ?_|refine nl ?_|refine gs rfl rfl ?_|exact z'A T (z'a _) ⟨rfl,rfl⟩
 have s0:decide ((r.length:Int)-1<0)=false:=by simp;omega
 by_cases q1:r.length>1000
 ·have s1:decide ((r.length:Int)-1≥1000)=true:=by simp;omega
  rw[show Zbw n locs r=false by simp[Zbw];omega]
  repeat' first|refine vs T rfl fun K hK=>?_;(try simp (disch:=omega) only[go_sem,Nat.reduceBEq,Nat.reduceAdd,hwl,s0,s1,x'W]);(refine hK _ _ ?_;clear hK K)|refine st rfl ?_|refine sc rfl ?_|refine nl ?_|refine gs rfl rfl ?_|exact z'A T (z'a _) ⟨rfl,rfl⟩
 have s1:decide ((r.length:Int)-1≥1000)=false:=by simp;omega
 have hk:((r.length:Int)-1)=((r.length-1:Nat):Int):=by omega
 rw[hk]at s0 s1
 have hwl:IntKind.i64.wrap ((r.length:Int)-1)=((r.length-1:Nat):Int):=by rw[hwl];exact hk
 clear hk
 obtain⟨xl,hxl⟩: ∃x,r[r.length-1]?=some x:=⟨_,z'b (by omega)⟩
 have rx:(w'o r)[r.length-1]?=some [iD xl.op,iD xl.reg,iD xl.loc,y'8 xl.e,y'8 xl.f,bD xl.ne,iD xl.to]:=by rw[ZcV,hxl];rfl
 have hgl:r.getD (r.length-1) default=xl:=by rw[z'd,hxl];rfl
 have hl0:r.length-1<r.length:=by omega
 have cd:=ZpX xl (hins xl (z'l hxl)).1 (hins xl (z'l hxl)).2
 cases hdn:Zef xl with
 |false=>
  rw[hdn]at cd
  rw[show Zbw n locs r=false by simp only[Zbw,hgl,hdn,Bool.and_false,w'E]]
  repeat' first|refine vs T rfl fun K hK=>?_;(try simp (disch:=omega) only[go_sem,Nat.reduceBEq,Nat.reduceAdd,Nat.reduceLeDiff,hwl,s0,s1,rx,x'W,z'O]);(first|refine hK _ _ ?_;clear hK K|refine⟨?_,hK _ _ ?_⟩<;>clear hK K;focus(try omega)|refine Op1.callp rfl rfl (cd) rfl ?_;refine hK _ _ ?_;clear hK K)|refine st rfl ?_|refine sc rfl ?_|refine nl ?_|refine gs rfl rfl ?_|exact z'A T (z'a _) ⟨rfl,rfl⟩
 |true=>
 rw[hdn]at cd
 have hRow:Zbw n locs r=(List.range (r.length-1)).all fun i=>v'h (r.getD i default) n locs r.length:=by
  unfold Zbw
  rw[hgl,hdn]
  have:(decide (1≤r.length)&&decide (r.length≤1000)&&true)=true:=by simp;omega
  rw[this];rfl
 have htl:(r.take (r.length-1)).length=r.length-1:=by rw[z'y];omega
 generalize hq:r.take (r.length-1)=q at*
 repeat' first|refine vs T rfl fun K hK=>?_;(try simp (disch:=omega) only[go_sem,Nat.reduceBEq,Nat.reduceAdd,Nat.reduceLeDiff,hwl,s0,s1,rx,x'W,Zqy,hq,htl,z'E]);(first|refine hK _ _ ?_;clear hK K|refine⟨?_,hK _ _ ?_⟩<;>clear hK K;focus(try omega)|refine Op1.callp rfl rfl (cd) rfl ?_;refine hK _ _ ?_;clear hK K)|refine st rfl ?_|refine sc rfl ?_|refine nl ?_|refine gs rfl rfl ?_
 refine VC.loop {i:Nat//i≤r.length-1∧ ∀j,j<i→v'h (r.getD j default) n locs r.length=true} (fun p=>⟨y'd [(0,.sl false 7 (w'o r)),(1,iD n),(2,iD locs),(29,.sl false 7 (w'o q)),(30,iD (r.length-1:Nat)),(31,iD (p.1:Nat))],[]⟩) (fun p=>r.length-p.1) ⟨0,by omega,fun j hj=>by omega⟩ ?_ ?_
 ·refine Weak.sub ?_
  simp[sub,upd]
 rintro⟨i,hi,hsi⟩
 dsimp only
 have hwi:IntKind.i64.wrap ((i:Int)+1)=((i+1:Nat):Int):=by rw[w64 (by omega)];omega
 rcases z'j i (r.length-1)with hlt|hge
 case inr=>
  have hd:decide ((i:Int)<((r.length-1:Nat):Int))=false:=by simp;omega
  rw[show Zbw n locs r=true by rw[hRow];exact Zfu fun j hj=>hsi j (by omega)]
  repeat' first|refine vs T rfl fun K hK=>?_;(try simp (disch:=omega) only[go_sem,Nat.reduceBEq,hd]);(refine hK _ _ ?_;clear hK K)|refine st rfl ?_|refine sc rfl ?_|refine nl ?_|exact z'A T (z'a _) ⟨rfl,rfl⟩
 have hd:decide ((i:Int)<((r.length-1:Nat):Int))=true:=by simp;omega
 obtain⟨x,hx⟩: ∃x,r[i]?=some x:=⟨_,z'b (by omega)⟩
 have hxq:q[i]?=some x:=by rw[←hq,x'f,if_pos hlt,hx]
 have rx2:(w'o q)[i]?=some [iD x.op,iD x.reg,iD x.loc,y'8 x.e,y'8 x.f,bD x.ne,iD x.to]:=by rw[ZcV,hxq];rfl
 have hgx:r.getD i default=x:=by rw[z'd,hx];rfl
 have hef:=hins x (z'l hx)
 have co:=ZrV x hef.1 hef.2 n locs r.length
 cases hO:v'h x n locs r.length with
 |false=>
  rw[hO]at co
  rw[show Zbw n locs r=false by rw[hRow];exact Zfv hlt (by rw[hgx];exact hO)]
  repeat' first|refine vs T rfl fun K hK=>?_;(try simp (disch:=omega) only[go_sem,Nat.reduceBEq,Nat.reduceAdd,Nat.reduceLeDiff,hd,rx2,htl,z'O,x'W]);(first|refine hK _ _ ?_;clear hK K|intro bq hbq;(try simp only[HB]at hbq);refine hK _ _ ?_;clear hK K|refine⟨?_,hK _ _ ?_⟩<;>clear hK K;focus(try omega)|refine Op1.callp rfl rfl (co) rfl ?_;refine hK _ _ ?_;clear hK K)|refine st rfl ?_|refine sc rfl ?_|refine nl ?_|exact z'A T (z'a _) ⟨rfl,rfl⟩
 |true=>
  rw[hO]at co
  repeat' first|refine vs T rfl fun K hK=>?_;(try simp (disch:=omega) only[go_sem,Nat.reduceBEq,Nat.reduceAdd,Nat.reduceLeDiff,hd,hwi,rx2,htl,z'E,x'W]);(first|refine hK _ _ ?_;clear hK K|intro bq hbq;(try simp only[HB]at hbq);refine hK _ _ ?_;clear hK K|refine⟨?_,hK _ _ ?_⟩<;>clear hK K;focus(try omega)|refine Op1.callp rfl rfl (co) rfl ?_;refine hK _ _ ?_;clear hK K)|refine st rfl ?_|refine sc rfl ?_|refine nl ?_
  refine⟨⟨i+1,by omega,fun j hj=>?_⟩,Weak.subH (z'a _) ?_,by dsimp only;omega⟩
  ·rcases z'j j i with h'|h'
   ·exact hsi j h'
   ·obtain rfl:j=i:=by omega
    rw[hgx];exact hO
  ·simp[sub,upd]
theorem Zfx (u:Un) (hu:OkU u):Pure Tryz.prog 19 [.agg (unC u)] (bD (y'G u)):=by
 have k1:=hu.ini
 have k2:=hu.reg
 have k3:=hu.cod
 refine Fun.of T [.tmp 2] Tryz.func19 rfl Tryz.ntmps19 Tryz.results19 rfl (by kernel_rfl) ?_
 by_cases q0:u.md<2
 ·have s0:decide (u.md<2)=true:=by simpa using q0
  rw[show y'G u=false by simp[y'G,w'Y];omega]
  repeat' first|refine vb rfl rfl rfl rfl ?_|refine vs T rfl fun K hK=>?_;(try simp (disch:=omega) only[go_sem,Nat.reduceBEq,s0]);(refine hK _ _ ?_;clear hK K)|refine st rfl ?_|refine sc rfl ?_|refine nl ?_|refine gs rfl rfl ?_|exact z'A T (z'a _) ⟨rfl,rfl⟩
 have s0:decide (u.md<2)=false:=by simpa using q0
 by_cases q1:u.md>16
 ·have s1:decide (u.md>16)=true:=by simpa using q1
  rw[show y'G u=false by simp[y'G,w'Y];omega]
  repeat' first|refine vb rfl rfl rfl rfl ?_|refine vs T rfl fun K hK=>?_;(try simp (disch:=omega) only[go_sem,Nat.reduceBEq,s0,s1]);(refine hK _ _ ?_;clear hK K)|refine st rfl ?_|refine sc rfl ?_|refine nl ?_|refine gs rfl rfl ?_|exact z'A T (z'a _) ⟨rfl,rfl⟩
 have s1:decide (u.md>16)=false:=by simpa using q1
 by_cases q2:u.init.length>6
 ·have s2:decide ((u.init.length:Int)>6)=true:=by simp;omega
  rw[show y'G u=false by simp[y'G,w'Y];omega]
  repeat' first|refine vb rfl rfl rfl rfl ?_|refine vs T rfl fun K hK=>?_;(try simp (disch:=omega) only[go_sem,Nat.reduceBEq,s0,s1,s2,z'I]);(refine hK _ _ ?_;clear hK K)|refine st rfl ?_|refine sc rfl ?_|refine nl ?_|refine gs rfl rfl ?_|exact z'A T (z'a _) ⟨rfl,rfl⟩
 have s2:decide ((u.init.length:Int)>6)=false:=by simp;omega
 by_cases q3:u.regs.length=0
 ·have s3:((u.regs.length:Int) == 0)=true:=beq_iff_eq.2 (by omega)
  rw[show y'G u=false by simp[y'G,w'Y,q3]]
  repeat' first|refine vb rfl rfl rfl rfl ?_|refine vs T rfl fun K hK=>?_;(try simp (disch:=omega) only[go_sem,Nat.reduceBEq,s0,s1,s2,s3,z'I]);(refine hK _ _ ?_;clear hK K)|refine st rfl ?_|refine sc rfl ?_|refine nl ?_|refine gs rfl rfl ?_|exact z'A T (z'a _) ⟨rfl,rfl⟩
 have s3:((u.regs.length:Int) == 0)=false:=beq_eq_false_iff_ne.2 (by omega)
 by_cases q4:u.regs.length>4
 ·have s4:decide ((u.regs.length:Int)>4)=true:=by simp;omega
  rw[show y'G u=false by simp[y'G,w'Y];omega]
  repeat' first|refine vb rfl rfl rfl rfl ?_|refine vs T rfl fun K hK=>?_;(try simp (disch:=omega) only[go_sem,Nat.reduceBEq,s0,s1,s2,s3,s4,z'I]);(refine hK _ _ ?_;clear hK K)|refine st rfl ?_|refine sc rfl ?_|refine nl ?_|refine gs rfl rfl ?_|exact z'A T (z'a _) ⟨rfl,rfl⟩
 have s4:decide ((u.regs.length:Int)>4)=false:=by simp;omega
 by_cases q5:u.code.length=u.regs.length
 case neg=>
  have s5:((u.code.length:Int) != (u.regs.length:Int))=true:=by simp;omega
  rw[show y'G u=false by simp[y'G,w'Y,q5]]
  repeat' first|refine vb rfl rfl rfl rfl ?_|refine vs T rfl fun K hK=>?_;(try simp (disch:=omega) only[go_sem,Nat.reduceBEq,s0,s1,s2,s3,s4,s5,z'I,x'r]);(refine hK _ _ ?_;clear hK K)|refine st rfl ?_|refine sc rfl ?_|refine nl ?_|refine gs rfl rfl ?_|exact z'A T (z'a _) ⟨rfl,rfl⟩
 have s5:((u.code.length:Int) != (u.regs.length:Int))=false:=by simp;omega
 repeat' first|refine vb rfl rfl rfl rfl ?_|refine vs T rfl fun K hK=>?_;(try simp (disch:=omega) only[go_sem,Nat.reduceBEq,s0,s1,s2,s3,s4,s5,z'I,x'r]);(refine hK _ _ ?_;clear hK K)|refine st rfl ?_|refine sc rfl ?_|refine nl ?_|refine gs rfl rfl ?_
 have hH:w'Y u=y'E u.init u.md:=by
  have h1:decide (2≤u.md)=true:=by simp;omega
  have h2:decide (u.md≤16)=true:=by simp;omega
  have h3:decide (u.init.length≤6)=true:=by simp;omega
  have h4:decide (1≤u.regs.length)=true:=by simp;omega
  have h5:decide (u.regs.length≤4)=true:=by simp;omega
  simp only[w'Y,h1,h2,h3,h4,h5,decide_eq_true q5,x'l,w'm]
 refine VC.loop {k:Nat//k≤u.init.length∧ ∀(i:Nat) (y:Int),i<k→u.init[i]?=some y→inB y u.md=true} (fun p=>⟨y'd [(1,.pt (unC u)),(43,y'c u.init),(44,iD (u.init.length:Nat)),(45,iD (p.1:Nat))],[]⟩) (fun p=>u.init.length-p.1) ⟨0,by omega,fun i y hi=>by omega⟩ ?_ ?_
 ·refine Weak.sub ?_
  simp[sub,upd]
 rintro⟨k,hk,hs⟩
 dsimp only
 rcases z'j k u.init.length with hlt|hge
 case inl=>
  have hd:decide ((k:Int)<(u.init.length:Int))=true:=by simp;omega
  have hw:IntKind.i64.wrap ((k:Int)+1)=((k+1:Nat):Int):=by rw[w64 (by omega)];omega
  obtain⟨n,hn⟩: ∃n,u.init[k]?=some n:=⟨_,z'b hlt⟩
  have rn:(iRs u.init)[k]?=some [iD n]:=by rw[x'7,hn];rfl
  have bad:inB n u.md=false→y'G u=false:=fun h=>by
   have:y'E u.init u.md=false:=ZdM (p:=fun n=>inB n u.md) hn h
   simp[y'G,hH,this]
  by_cases p0:n<0
  ·have d0:decide (n<0)=true:=by simpa using p0
   rw[bad (by simp[inB];omega)]
   repeat' first|refine vs T rfl fun K hK=>?_;(try simp (disch:=omega) only[go_sem,Nat.reduceBEq,hd,rn,d0,z'I]);(first|refine hK _ _ ?_;clear hK K|refine⟨?_,hK _ _ ?_⟩<;>clear hK K;focus(try omega))|refine st rfl ?_|refine sc rfl ?_|refine nl ?_|refine gs rfl rfl ?_|exact z'A T (z'a _) ⟨rfl,rfl⟩
  have d0:decide (n<0)=false:=by simpa using p0
  by_cases p1:n≥u.md
  ·have d1:decide (n≥u.md)=true:=by simpa using p1
   rw[bad (by simp[inB];omega)]
   repeat' first|refine vs T rfl fun K hK=>?_;(try simp (disch:=omega) only[go_sem,Nat.reduceBEq,hd,rn,d0,d1,z'I]);(first|refine hK _ _ ?_;clear hK K|refine⟨?_,hK _ _ ?_⟩<;>clear hK K;focus(try omega))|refine st rfl ?_|refine sc rfl ?_|refine nl ?_|refine gs rfl rfl ?_|exact z'A T (z'a _) ⟨rfl,rfl⟩
  have d1:decide (n≥u.md)=false:=by simpa using p1
  repeat' first|refine vs T rfl fun K hK=>?_;(try simp (disch:=omega) only[go_sem,Nat.reduceBEq,hd,hw,rn,d0,d1,z'I]);(first|refine hK _ _ ?_;clear hK K|refine⟨?_,hK _ _ ?_⟩<;>clear hK K;focus(try omega))|refine st rfl ?_|refine sc rfl ?_|refine nl ?_|refine gs rfl rfl ?_
  refine⟨⟨k+1,by omega,Zd4 hs hn (by simp[inB];omega)⟩,Weak.sub ?_,by simp only[];omega⟩
  simp[sub,upd]
 have hd:decide ((k:Int)<(u.init.length:Int))=false:=by simp;omega
 have hA:y'E u.init u.md=true:=ZeY fun i x hi hx=>hs i x (by omega) hx
 have hU:y'G u=(List.range u.regs.length).all fun t=>Zcr (u.regs.getD t 0) u.init.length (u.code.getD t []):=by
  unfold y'G
  rw[hH,hA,x'l]
 repeat' first|refine vs T rfl fun K hK=>?_;(try simp (disch:=omega) only[go_sem,Nat.reduceBEq,hd,z'I]);(refine hK _ _ ?_;clear hK K)|refine st rfl ?_|refine sc rfl ?_|refine nl ?_
 refine VC.loop {t:Nat//t≤u.regs.length∧ ∀j,j<t→Zcr (u.regs.getD j 0) u.init.length (u.code.getD j [])=true} (fun p=>⟨y'd [(1,.pt (unC u)),(59,y'c u.regs),(60,iD (u.regs.length:Nat)),(61,iD (p.1:Nat))],[]⟩) (fun p=>u.regs.length-p.1) ⟨0,by omega,fun j hj=>by omega⟩ ?_ ?_
 ·refine Weak.sub ?_
  simp[sub,upd]
 rintro⟨t,ht,hs⟩
 dsimp only
 rcases z'j t u.regs.length with hlt|hge
 case inr=>
  have hd:decide ((t:Int)<(u.regs.length:Int))=false:=by simp;omega
  rw[show y'G u=true by rw[hU];exact Zfu fun i hi=>hs i (by omega)]
  repeat' first|refine vs T rfl fun K hK=>?_;(try simp (disch:=omega) only[go_sem,Nat.reduceBEq,hd]);(refine hK _ _ ?_;clear hK K)|refine st rfl ?_|refine sc rfl ?_|refine nl ?_|exact z'A T (z'a _) ⟨rfl,rfl⟩
 have hd:decide ((t:Int)<(u.regs.length:Int))=true:=by simp;omega
 have hw:IntKind.i64.wrap ((t:Int)+1)=((t+1:Nat):Int):=by rw[w64 (by omega)];omega
 obtain⟨n,hn⟩: ∃n,u.regs[t]?=some n:=⟨_,z'b hlt⟩
 obtain⟨r,hr⟩: ∃r,u.code[t]?=some r:=⟨_,z'b (by omega)⟩
 have rn:(iRs u.regs)[t]?=some [iD n]:=by rw[x'7,hn];rfl
 have rr:(Zax u.code)[t]?=some [.sl false 7 (w'o r)]:=by rw[Zb3,hr];rfl
 have hrm:=z'l hr
 have hgn:u.regs.getD t 0=n:=by rw[z'd,hn];rfl
 have hgr:u.code.getD t []=r:=by rw[z'd,hr];rfl
 have bad:Zcr n u.init.length r=false→y'G u=false:=fun h=>by rw[hU];exact Zfv hlt (by rw[hgn,hgr];exact h)
 have htc:t<u.code.length:=by omega
 have cr:=ZsM r (hu.row r hrm) (hu.ins r hrm) n u.init.length
 by_cases p0:n<0
 ·have d0:decide (n<0)=true:=by simpa using p0
  rw[bad (by rw[ZhS];simp;omega)]
  repeat' first|refine dr (id:=14) T 16 (by kernel_rfl) ?_|refine gn ?_|(apply VCg.step T rfl rfl);focus((try simp (disch:=omega) only[go_sem,Nat.reduceBEq,d0]);(exact rfl))|refine VCg.gstep T rfl rfl rfl rfl ?_;try simp only[GB]|refine vs T rfl fun K hK=>?_;(try simp (disch:=omega) only[go_sem,Nat.reduceBEq,hd,rn,z'I]);(first|refine hK _ _ ?_;clear hK K|refine⟨?_,hK _ _ ?_⟩<;>clear hK K;focus(try omega))|refine st rfl ?_|refine sc rfl ?_|refine nl ?_|refine gs rfl rfl ?_|exact z'A T (z'a _) ⟨rfl,rfl⟩
 have d0:decide (n<0)=false:=by simpa using p0
 by_cases p1:n>6
 ·have d1:decide (n>6)=true:=by simpa using p1
  rw[bad (by rw[ZhS];simp;omega)]
  repeat' first|refine dr (id:=14) T 16 (by kernel_rfl) ?_|refine gn ?_|(first|apply VCg.step T rfl rfl|apply exF);focus((try simp (disch:=omega) only[go_sem,Nat.reduceBEq,d0,d1]);(exact rfl))|refine VCg.gstep T rfl rfl rfl rfl ?_;try simp only[GB]|refine vs T rfl fun K hK=>?_;(try simp (disch:=omega) only[go_sem,Nat.reduceBEq,hd,rn,z'I]);(first|refine hK _ _ ?_;clear hK K|refine⟨?_,hK _ _ ?_⟩<;>clear hK K;focus(try omega))|refine st rfl ?_|refine sc rfl ?_|refine nl ?_|refine gs rfl rfl ?_|exact z'A T (z'a _) ⟨rfl,rfl⟩
 have d1:decide (n>6)=false:=by simpa using p1
 cases hQ:Zbw n u.init.length r with
 |false=>
  rw[hQ]at cr
  rw[bad (by rw[ZhS,hQ];simp)]
  repeat' first|refine dr (id:=14) T 16 (by kernel_rfl) ?_|refine gn ?_|(first|apply VCg.step T rfl rfl|apply exF);focus((try simp (disch:=omega) only[go_sem,Nat.reduceBEq,rr,d0,d1,z'I,x'r]);(first|exact rfl|refine⟨?_,rfl⟩;try omega))|refine VCg.gstep T rfl rfl rfl rfl ?_;try simp only[GB]|refine vs T rfl fun K hK=>?_;(try simp (disch:=omega) only[go_sem,Nat.reduceBEq,hd,rn,z'O,z'I]);(first|refine hK _ _ ?_;clear hK K|refine⟨?_,hK _ _ ?_⟩<;>clear hK K;focus(try omega)|refine Op1.callp rfl rfl (cr) rfl ?_;refine hK _ _ ?_;clear hK K)|refine st rfl ?_|refine sc rfl ?_|refine nl ?_|refine gs rfl rfl ?_|exact z'A T (z'a _) ⟨rfl,rfl⟩
 |true=>
  rw[hQ]at cr
  repeat' first|refine dr (id:=14) T 16 (by kernel_rfl) ?_|refine gn ?_|(first|apply VCg.step T rfl rfl|apply exF);focus((try simp (disch:=omega) only[go_sem,Nat.reduceBEq,rr,d0,d1,z'I,x'r]);(first|exact rfl|refine⟨?_,rfl⟩;try omega))|refine VCg.gstep T rfl rfl rfl rfl ?_;try simp only[GB]|refine vs T rfl fun K hK=>?_;(try simp (disch:=omega) only[go_sem,Nat.reduceBEq,hd,hw,rn,z'E,z'I]);(first|refine hK _ _ ?_;clear hK K|refine⟨?_,hK _ _ ?_⟩<;>clear hK K;focus(try omega)|refine Op1.callp rfl rfl (cr) rfl ?_;refine hK _ _ ?_;clear hK K)|refine st rfl ?_|refine sc rfl ?_|refine nl ?_|refine gs rfl rfl ?_
  refine⟨⟨t+1,by omega,fun j hj=>?_⟩,Weak.sub ?_,by simp only[];omega⟩
  ·rcases z'j j t with h'|h'
   ·exact hs j h'
   ·obtain rfl:j=t:=by omega
    rw[hgn,hgr,ZhS,hQ];simp;omega
  ·simp[sub,upd]
end Go.Proofs.YthlkpnjjkgmlkaaGreat
