/- Contracts: whether a configuration can be, as the program says. No condition. -/
import Derived.Test.YthlkpnjjkgmlkaaGreatYr
import Derived.Test.YthlkpnjjkgmlkaaGreatWd
import Derived.Test.YthlkpnjjkgmlkaaGreatRd
import Derived.Test.YthlkpnjjkgmlkaaGreatRg
namespace Go.Proofs.YthlkpnjjkgmlkaaGreat
set_option maxHeartbeats 16000000
set_option linter.unusedSimpArgs false
set_option linter.unusedVariables false
set_option maxRecDepth 20000
open Go Go.Proofs Go.Vc
attribute [local irreducible] x'c VCg VCw VCx
theorem Zjg (m r md lc:Int) (b:List En):Zbu m r md lc b=x'm m r md lc b:=by
 unfold Zbu x'm Zdt ZaH
 cases hX:(List.range b.length).all fun i=> !w'e m r md lc b i
 ·simp
 by_cases h1:m=1
 ·subst h1;simp
 by_cases h2:m=2
 ·subst h2
  rw[x'0]
  simp only[z'c,y'2,decide_eq_true_eq,ne_eq,reduceIte,Int.reduceEq]
  constructor
  ·rintro⟨h1,h2⟩;exact⟨⟨⟨by omega,h1.1⟩,trivial⟩,.inl ⟨by simp,.inr h2⟩⟩
  ·rintro⟨⟨⟨_,h1⟩,_⟩,h2⟩
   refine⟨⟨h1,trivial⟩,?_⟩
   rcases h2 with⟨_,h2⟩|h2
   ·exact h2.elim (fun h=>h.elim) id
   ·omega
 by_cases h3:m=3
 ·subst h3;simp
 ·rw[x'0]
  simp only[z'c,y'2,decide_eq_true_eq,ne_eq,if_neg h1,if_neg h2]
  constructor
  ·intro h;exact absurd h.2 h3
  ·intro h;omega
theorem ZkL {x m:Int}:inB x m=(decide (0≤x)&&decide (x<m)):=by
 unfold inB
 rfl
theorem ZiP (l:List Int) (hl:l.length≤1000000) (m n:Int):Pure Tryz.prog 280 [y'c l,iD m,iD n] (bD (y'E l m&&((l.length:Int) == n))):=by
 refine Fun.of T [.tmp 6] Tryz.func280 rfl Tryz.ntmps280 Tryz.results280 rfl (by kernel_rfl) ?_
 repeat' first|refine vs T rfl fun K hK=>?_;(try simp (disch:=omega) only[go_sem,Nat.reduceBEq,Nat.reduceAdd,z'I]);(refine hK _ _ ?_;clear hK K)|refine st rfl ?_|refine nl ?_
 refine VC.loop {k:Nat//k≤l.length∧ ∀i n,i<k→l[i]?=some n→inB n m=true} (fun p=>⟨y'd [(0,y'c l),(1,iD m),(2,iD n),(9,y'c l),(10,iD (l.length:Nat)),(11,iD (p.1:Nat))],[]⟩) (fun p=>l.length-p.1) ⟨0,by omega,fun i n hi=>by omega⟩ ?_ ?_
 ·refine Weak.sub ?_
  simp[sub,upd]
 rintro⟨k,hk,hno⟩
 dsimp only
 rcases z'j k l.length with hlt|hge
 ·have hd:decide ((k:Int)<(l.length:Int))=true:=by simp;omega
  have hw:IntKind.i64.wrap ((k:Int)+1)=((k+1:Nat):Int):=by rw[w64 (by omega)];omega
  obtain⟨x,hx⟩: ∃x,l[k]?=some x:=⟨_,z'b hlt⟩
  have hrow:(iRs l)[k]?=some [iD x]:=by rw[x'7,hx];rfl
  have bad:inB x m=false→y'E l m=false:=fun he=>by
   unfold y'E
   rw[v'c]
   exact⟨x,z'l hx,by simp[he]⟩
  by_cases q0:x<0
  ·have s0:decide (x<0)=true:=decide_eq_true q0
   rw[bad (by rw[ZkL];simp;omega),w'E]
   repeat' first|refine vs T rfl fun K hK=>?_;(try simp (disch:=omega) only[go_sem,Nat.reduceBEq,z'I,hd,hrow,s0]);(first|refine hK _ _ ?_;clear hK K|refine⟨?_,hK _ _ ?_⟩<;>clear hK K;focus(try omega))|refine st rfl ?_|refine sc rfl ?_|refine nl ?_|refine gs rfl rfl ?_|exact z'A T (z'a _) ⟨rfl,rfl⟩
  have s0:decide (x<0)=false:=decide_eq_false q0
  by_cases q1:x≥m
  ·have s1:decide (x≥m)=true:=decide_eq_true q1
   rw[bad (by rw[ZkL];simp;omega),w'E]
   repeat' first|refine vs T rfl fun K hK=>?_;(try simp (disch:=omega) only[go_sem,Nat.reduceBEq,z'I,hd,hrow,s0,s1]);(first|refine hK _ _ ?_;clear hK K|refine⟨?_,hK _ _ ?_⟩<;>clear hK K;focus(try omega))|refine st rfl ?_|refine sc rfl ?_|refine nl ?_|refine gs rfl rfl ?_|exact z'A T (z'a _) ⟨rfl,rfl⟩
  have s1:decide (x≥m)=false:=decide_eq_false q1
  repeat' first|refine vs T rfl fun K hK=>?_;(try simp (disch:=omega) only[go_sem,Nat.reduceBEq,z'I,hd,hw,hrow,s0,s1]);(first|refine hK _ _ ?_;clear hK K|refine⟨?_,hK _ _ ?_⟩<;>clear hK K;focus(try omega))|refine st rfl ?_|refine sc rfl ?_|refine nl ?_|refine gs rfl rfl ?_
  refine⟨⟨k+1,by omega,fun i n hi hn=>?_⟩,Weak.sub ?_,by dsimp only;omega⟩
  ·rcases z'j i k with h'|h'
   ·exact hno i n h' hn
   ·obtain rfl:i=k:=by omega
    rw[hx]at hn;cases hn
    rw[ZkL];simp;omega
  ·simp[sub,upd]
 ·have hd:decide ((k:Int)<(l.length:Int))=false:=by simp;omega
  have hA:y'E l m=true:=by
   unfold y'E
   rw[z'o]
   intro x hx
   obtain⟨i,hi,rfl⟩:=List.mem_iff_getElem.1 hx
   exact hno i _ (by omega) (z'b hi)
  rw[hA,x'l]
  repeat' first|refine vs T rfl fun K hK=>?_;(try simp (disch:=omega) only[go_sem,Nat.reduceBEq,z'I,hd]);(refine hK _ _ ?_;clear hK K)|refine st rfl ?_|refine sc rfl ?_|refine nl ?_|exact z'A T (z'a _) ⟨rfl,rfl⟩
theorem Zr9 {m r md lc:Int} {b:List En} (h:x'm m r md lc b=true):x'm m r md lc []=true:=by
 have hg:ZaH m r md=true:=by unfold x'm at h;simp only[z'c]at h;exact h.1.1
 unfold x'm
 rw[hg]
 simp[Zdt]
theorem Zop (u:Un) (hu:OkU u) (c:Cf) (hc:OkC c) (m r:Int):Pure Tryz.prog 256 [.agg (unC u),.agg (cfC c),iD m,iD r] (bD (x'i u c m r)):=by
 have k1:=hu.ini
 have k2:=hu.reg
 have k3:=hu.cod
 have k4:=hc.pc
 have k5:=hc.regs
 have k6:=hc.mem
 have k7:=hc.bufs
 have cu:=Zfx u hu
 have cm:=ZiP c.mem (by omega) u.md (u.init.length:Nat)
 have no:v'W u c=false→x'i u c m r=false:=fun h=>by unfold x'i;rw[h];rfl
 refine Fun.of T [.tmp 8] Tryz.func256 rfl Tryz.ntmps256 Tryz.results256 rfl (by kernel_rfl) ?_
 cases hU:y'G u with
 |false=>
  rw[hU]at cu
  rw[no (by simp[v'W,hU])]
  repeat' first|refine vb (t:=32) rfl rfl rfl rfl ?_|refine vb (t:=69) rfl rfl rfl rfl ?_|refine vs T rfl fun K hK=>?_;(try simp (disch:=omega) only[go_sem,Nat.reduceBEq,Nat.reduceAdd,Nat.reduceLeDiff,z'O,z'I]);(first|refine hK _ _ ?_;clear hK K|refine Op1.callp rfl rfl (cu) rfl ?_;refine hK _ _ ?_;clear hK K)|refine st rfl ?_|refine sc rfl ?_|refine nl ?_|refine gs rfl rfl ?_|exact z'A T (z'a _) ⟨rfl,rfl⟩
 |true=>
 rw[hU]at cu
 cases hM:y'E c.mem u.md&&((c.mem.length:Int) == (u.init.length:Nat))with
 |false=>
  rw[hM]at cm
  have hM':(y'E c.mem u.md&&decide (c.mem.length=u.init.length))=false:=by
   rw[←hM];congr 1;rw[x'0];simp;omega
  rw[no (by
   unfold v'W
   rw[Bool.and_eq_false_iff]at hM'⊢
   rcases hM' with h|h
   ·exact .inr h
   ·left;simp[h]at h⊢)]
  repeat' first|refine vb (t:=32) rfl rfl rfl rfl ?_|refine vb (t:=69) rfl rfl rfl rfl ?_|refine vs T rfl fun K hK=>?_;(try simp (disch:=omega) only[go_sem,Nat.reduceBEq,Nat.reduceAdd,Nat.reduceLeDiff,z'O,z'E,z'I]);(first|refine hK _ _ ?_;clear hK K|refine Op1.callp rfl rfl (cu) rfl ?_;refine hK _ _ ?_;clear hK K|refine Op1.callp rfl rfl (cm) rfl ?_;refine hK _ _ ?_;clear hK K)|refine st rfl ?_|refine sc rfl ?_|refine nl ?_|refine gs rfl rfl ?_|exact z'A T (z'a _) ⟨rfl,rfl⟩
 |true=>
 rw[hM]at cm
 rw[z'c]at hM
 have g3:c.mem.length=u.init.length:=by have:=hM.2;simp at this;omega
 by_cases g0:c.pc.length=u.regs.length
 case neg=>
  have d0:((c.pc.length:Int) != (u.regs.length:Int))=true:=bne_iff_ne.2 (by omega)
  rw[no (by simp[v'W,g0])]
  repeat' first|refine vb (t:=32) rfl rfl rfl rfl ?_|refine vb (t:=69) rfl rfl rfl rfl ?_|refine vs T rfl fun K hK=>?_;(try simp (disch:=omega) only[go_sem,Nat.reduceBEq,Nat.reduceAdd,Nat.reduceLeDiff,d0,z'E,z'I]);(first|refine hK _ _ ?_;clear hK K|refine Op1.callp rfl rfl (cu) rfl ?_;refine hK _ _ ?_;clear hK K|refine Op1.callp rfl rfl (cm) rfl ?_;refine hK _ _ ?_;clear hK K)|refine st rfl ?_|refine sc rfl ?_|refine nl ?_|refine gs rfl rfl ?_|exact z'A T (z'a _) ⟨rfl,rfl⟩
 have d0:((c.pc.length:Int) != (u.regs.length:Int))=false:=by simp[g0]
 by_cases g1:c.regs.length=u.regs.length
 case neg=>
  have d1:((c.regs.length:Int) != (u.regs.length:Int))=true:=bne_iff_ne.2 (by omega)
  rw[no (by simp[v'W,g1])]
  repeat' first|refine vb (t:=32) rfl rfl rfl rfl ?_|refine vb (t:=69) rfl rfl rfl rfl ?_|refine vs T rfl fun K hK=>?_;(try simp (disch:=omega) only[go_sem,Nat.reduceBEq,Nat.reduceAdd,Nat.reduceLeDiff,d0,d1,z'E,z'I,y'4]);(first|refine hK _ _ ?_;clear hK K|refine Op1.callp rfl rfl (cu) rfl ?_;refine hK _ _ ?_;clear hK K|refine Op1.callp rfl rfl (cm) rfl ?_;refine hK _ _ ?_;clear hK K)|refine st rfl ?_|refine sc rfl ?_|refine nl ?_|refine gs rfl rfl ?_|exact z'A T (z'a _) ⟨rfl,rfl⟩
 have d1:((c.regs.length:Int) != (u.regs.length:Int))=false:=by simp[g1]
 by_cases g2:c.bufs.length=u.regs.length
 case neg=>
  have d2:((c.bufs.length:Int) != (u.regs.length:Int))=true:=bne_iff_ne.2 (by omega)
  rw[no (by simp[v'W,g2])]
  repeat' first|refine vb (t:=32) rfl rfl rfl rfl ?_|refine vb (t:=69) rfl rfl rfl rfl ?_|refine vs T rfl fun K hK=>?_;(try simp (disch:=omega) only[go_sem,Nat.reduceBEq,Nat.reduceAdd,Nat.reduceLeDiff,d0,d1,d2,z'E,z'I,y'4,y'u]);(first|refine hK _ _ ?_;clear hK K|refine Op1.callp rfl rfl (cu) rfl ?_;refine hK _ _ ?_;clear hK K|refine Op1.callp rfl rfl (cm) rfl ?_;refine hK _ _ ?_;clear hK K)|refine st rfl ?_|refine sc rfl ?_|refine nl ?_|refine gs rfl rfl ?_|exact z'A T (z'a _) ⟨rfl,rfl⟩
 have d2:((c.bufs.length:Int) != (u.regs.length:Int))=false:=by simp[g2]
 have hH:v'W u c=true:=by simp[v'W,hU,g0,g1,g2,g3,hM.1]
 have hR:x'i u c m r=(((List.range u.regs.length).all fun t=>Zat u c m r t)&&x'm m r u.md u.init.length []):=by unfold x'i;rw[hH];rfl
 have hcl:u.code.length=u.regs.length:=by
  have:w'Y u=true:=by unfold y'G at hU;simp only[z'c]at hU;exact hU.1
  simp only[w'Y,z'c,decide_eq_true_eq]at this
  exact this.2
 have hun:=(ZfH hU).2.2
 repeat' first|refine vb (t:=32) rfl rfl rfl rfl ?_|refine vb (t:=69) rfl rfl rfl rfl ?_|refine vs T rfl fun K hK=>?_;(try simp (disch:=omega) only[go_sem,Nat.reduceBEq,Nat.reduceAdd,Nat.reduceLeDiff,d0,d1,d2,z'E,z'I,y'4,y'u]);(first|refine hK _ _ ?_;clear hK K|refine Op1.callp rfl rfl (cu) rfl ?_;refine hK _ _ ?_;clear hK K|refine Op1.callp rfl rfl (cm) rfl ?_;refine hK _ _ ?_;clear hK K)|refine st rfl ?_|refine sc rfl ?_|refine nl ?_|refine gs rfl rfl ?_
 refine VC.loop {t:Nat//t≤u.regs.length∧ ∀j,j<t→Zat u c m r j=true} (fun p=>⟨y'd [(2,iD m),(3,iD r),(4,.pt (unC u)),(5,.pt (cfC c)),(51,y'c c.pc),(52,iD (c.pc.length:Nat)),(53,iD (p.1:Nat))],[]⟩) (fun p=>u.regs.length-p.1) ⟨0,by omega,fun j hj=>by omega⟩ ?_ ?_
 ·refine Weak.sub ?_
  simp[sub,upd]
 rintro⟨t,ht,hs⟩
 dsimp only
 rcases z'j t u.regs.length with hlt|hge
 case inr=>
  have hd:decide ((t:Int)<(c.pc.length:Int))=false:=by simp;omega
  have hall:((List.range u.regs.length).all fun t=>Zat u c m r t)=true:=Zfu fun i hi=>hs i (by omega)
  have h0:=hs 0 (by omega)
  have hr0:x'm m r u.md u.init.length []=true:=by
   unfold Zat at h0
   simp only[z'c]at h0
   exact Zr9 h0.2
  have hr:x'i u c m r=true:=by rw[hR,hall,hr0];rfl
  rw[hr]
  repeat' first|refine vs T rfl fun K hK=>?_;(try simp (disch:=omega) only[go_sem,Nat.reduceBEq,hd]);(refine hK _ _ ?_;clear hK K)|refine st rfl ?_|refine sc rfl ?_|refine nl ?_|exact z'A T (z'a _) ⟨rfl,rfl⟩
 have hd:decide ((t:Int)<(c.pc.length:Int))=true:=by simp;omega
 have hw:IntKind.i64.wrap ((t:Int)+1)=((t+1:Nat):Int):=by rw[w64 (by omega)];omega
 obtain⟨n,hn⟩: ∃n,u.regs[t]?=some n:=⟨_,z'b hlt⟩
 obtain⟨rw0,hrw⟩: ∃r,u.code[t]?=some r:=⟨_,z'b (by omega)⟩
 obtain⟨p,hp⟩: ∃p,c.pc[t]?=some p:=⟨_,z'b (by omega)⟩
 obtain⟨row,hro⟩: ∃p,c.regs[t]?=some p:=⟨_,z'b (by omega)⟩
 obtain⟨b,hb⟩: ∃p,c.bufs[t]?=some p:=⟨_,z'b (by omega)⟩
 have rn:(iRs u.regs)[t]?=some [iD n]:=by rw[x'7,hn];rfl
 have rr:(Zax u.code)[t]?=some [.sl false 7 (w'o rw0)]:=by rw[Zb3,hrw];rfl
 have rp:(iRs c.pc)[t]?=some [iD p]:=by rw[x'7,hp];rfl
 have rg:(x'X c.regs)[t]?=some [y'c row]:=by rw[Zaa,hro];rfl
 have rb:(x'6 c.bufs)[t]?=some [buf b]:=by rw[v'y,hb];rfl
 have hT:Zat u c m r t=(decide (0≤p)&&decide (p<(rw0.length:Int))&&decide ((row.length:Int)=n)&&y'E row u.md&&x'm m r u.md u.init.length b):=by
  simp[Zat,z'd,hn,hrw,hp,hro,hb]
 have hbl:=hc.buf b (z'l hb)
 have hrl:=hc.row row (z'l hro)
 have c1:=ZiP row (by omega) u.md n
 have c2:=Zjp b (by omega) m r u.md u.init.length
 rw[Zjg]at c2
 have l1:t<u.code.length:=by omega
 have l2:t<c.pc.length:=by omega
 have l3:t<c.regs.length:=by omega
 have l4:t<c.bufs.length:=by omega
 have bad:Zat u c m r t=false→x'i u c m r=false:=fun h=>by rw[hR,Zfv hlt h];rfl
 by_cases q0:p<0
 ·have s0:decide (p<0)=true:=by simpa using q0
  rw[bad (by rw[hT];simp;omega)]
  repeat' first|refine vs T rfl fun K hK=>?_;(try simp (disch:=omega) only[go_sem,Nat.reduceBEq,hd,rp,s0,z'I]);(first|refine hK _ _ ?_;clear hK K|refine⟨?_,hK _ _ ?_⟩<;>clear hK K;focus(try omega))|refine st rfl ?_|refine sc rfl ?_|refine nl ?_|refine gs rfl rfl ?_|exact z'A T (z'a _) ⟨rfl,rfl⟩
 have s0:decide (p<0)=false:=by simpa using q0
 by_cases q1:p≥(rw0.length:Int)
 ·have s1:decide (p≥(rw0.length:Int))=true:=by simpa using q1
  rw[bad (by rw[hT];simp;omega)]
  repeat' first|refine vs T rfl fun K hK=>?_;(try simp (disch:=omega) only[go_sem,Nat.reduceBEq,hd,rr,rp,s0,s1,z'I,x'r,x'W]);(first|refine hK _ _ ?_;clear hK K|refine⟨?_,hK _ _ ?_⟩<;>clear hK K;focus(try omega))|refine st rfl ?_|refine sc rfl ?_|refine nl ?_|refine gs rfl rfl ?_|exact z'A T (z'a _) ⟨rfl,rfl⟩
 have s1:decide (p≥(rw0.length:Int))=false:=by simpa using q1
 cases hA:y'E row u.md&&((row.length:Int) == n)with
 |false=>
  rw[hA]at c1
  rw[bad (by
   rw[hT]
   rw[Bool.and_eq_false_iff]at hA
   rcases hA with h|h
   ·simp[h]
   ·have: ¬(row.length:Int)=n:=by simpa using h
    simp[this])]
  repeat' first|refine dr (id:=9) T 27 (by kernel_rfl) ?_|refine gn ?_|(apply VCg.step T rfl rfl);focus((try simp (disch:=omega) only[go_sem,Nat.reduceBEq,rn,rg,z'O,z'I,y'4]);(first|exact rfl|refine⟨?_,rfl⟩;try omega|refine Op1.callp rfl rfl (c1) rfl ?_;exact⟨rfl,rfl⟩))|refine VCg.gstep T rfl rfl rfl rfl ?_;try simp only[GB]|refine vs T rfl fun K hK=>?_;(try simp (disch:=omega) only[go_sem,Nat.reduceBEq,hd,rr,rp,s0,s1,z'I,x'r,x'W]);(first|refine hK _ _ ?_;clear hK K|refine⟨?_,hK _ _ ?_⟩<;>clear hK K;focus(try omega))|refine st rfl ?_|refine sc rfl ?_|refine nl ?_|refine gs rfl rfl ?_|exact z'A T (z'a _) ⟨rfl,rfl⟩
 |true=>
 rw[hA]at c1
 cases hB:x'm m r u.md u.init.length b with
 |false=>
  rw[hB]at c2
  rw[bad (by rw[hT,hB];simp)]
  repeat' first|refine dr (id:=9) T 27 (by kernel_rfl) ?_|refine gn ?_|(first|apply VCg.step T rfl rfl|apply exF);focus((try simp (disch:=omega) only[go_sem,Nat.reduceBEq,rn,rg,rb,z'E,z'I,y'4,y'u]);(first|exact rfl|refine⟨?_,rfl⟩;try omega|refine Op1.callp rfl rfl (c1) rfl ?_;exact⟨rfl,rfl⟩))|refine VCg.gstep T rfl rfl rfl rfl ?_;try simp only[GB]|refine vs T rfl fun K hK=>?_;(try simp (disch:=omega) only[go_sem,Nat.reduceBEq,hd,rr,rp,s0,s1,z'O,z'I,x'r,x'W]);(first|refine hK _ _ ?_;clear hK K|refine⟨?_,hK _ _ ?_⟩<;>clear hK K;focus(try omega)|refine Op1.callp rfl rfl (c2) rfl ?_;refine hK _ _ ?_;clear hK K)|refine st rfl ?_|refine sc rfl ?_|refine nl ?_|refine gs rfl rfl ?_|exact z'A T (z'a _) ⟨rfl,rfl⟩
 |true=>
 rw[hB]at c2
 rw[z'c,beq_iff_eq]at hA
 have hTt:Zat u c m r t=true:=by rw[hT,hA.1,hB];simp;have:=hA.2;omega
 repeat' first|refine dr (id:=9) T 27 (by kernel_rfl) ?_|refine gn ?_|(first|apply VCg.step T rfl rfl|apply exF);focus((try simp (disch:=omega) only[go_sem,Nat.reduceBEq,rn,rg,rb,z'E,z'I,y'4,y'u]);(first|exact rfl|refine⟨?_,rfl⟩;try omega|refine Op1.callp rfl rfl (c1) rfl ?_;exact⟨rfl,rfl⟩))|refine VCg.gstep T rfl rfl rfl rfl ?_;try simp only[GB]|refine vs T rfl fun K hK=>?_;(try simp (disch:=omega) only[go_sem,Nat.reduceBEq,hd,hw,rr,rp,s0,s1,z'E,z'I,x'r,x'W]);(first|refine hK _ _ ?_;clear hK K|refine⟨?_,hK _ _ ?_⟩<;>clear hK K;focus(try omega)|refine Op1.callp rfl rfl (c2) rfl ?_;refine hK _ _ ?_;clear hK K)|refine st rfl ?_|refine sc rfl ?_|refine nl ?_|refine gs rfl rfl ?_
 refine⟨⟨t+1,by omega,fun j hj=>?_⟩,Weak.sub ?_,by simp only[];omega⟩
 ·rcases z'j j t with h'|h'
  ·exact hs j h'
  ·obtain rfl:j=t:=by omega
   exact hTt
 ·simp[sub,upd]
end Go.Proofs.YthlkpnjjkgmlkaaGreat
