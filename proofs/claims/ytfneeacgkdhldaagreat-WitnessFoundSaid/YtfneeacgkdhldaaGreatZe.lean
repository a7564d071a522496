/- Contracts: what a thread can, as the reference says. No condition. -/
import Derived.Test.YtfneeacgkdhldaaGreatYh
import Derived.Test.YtfneeacgkdhldaaGreatK2
namespace Go.Proofs.YtfneeacgkdhldaaGreat
set_option maxHeartbeats 16000000
set_option linter.unusedSimpArgs false
set_option linter.unusedVariables false
set_option maxRecDepth 20000
open Go Go.Proofs Go.Vc
attribute [local irreducible] y'5 VCg VCw VCx
theorem x'X (u:Un) (c:Cf) (i:Nat) (row:List Int) (hr:c.regs[i]?=some row) (l:List Opc) (hl:l.length≤1000) (hrl:row.length≤1000):Pure Tryz.prog 68 [.agg (unC u),.agg (cfC c),iD (i:Nat),z'S l] (iD (z'3 u row l)):=by
 have rr:(y'V c.regs)[i]?=some [z'C row]:=by rw[w'Z,hr];rfl
 have hil:=(z'c.1 hr).1
 have cv:Pure Tryz.prog 98 [z'S l,iD u.md,z'C row,.gs none 0,.gs none 0] (.tup [iD (Zc2 l u.md row [] []),bD (v'V l u.md row [] [])]):=
  Fun.argsW (Zlu l u.md row [] [] ⟨hl,hrl,by simp,by simp,by simp⟩) (z't (Fz.refl _ _) (z't (Fz.refl _ _) (z't (Fz.refl _ _) (z't y'q (z't y'q x'T)))))
 refine Fun.of T [.tmp 8] Tryz.func68 rfl Tryz.ntmps68 Tryz.results68 rfl (by kernel_rfl) ?_
 repeat' first|refine vb rfl rfl rfl rfl ?_|refine dr (id:=1) T 13 (by kernel_rfl) ?_|refine gn ?_|apply VCg.step T rfl rfl;focus((try simp (disch:=omega) only[go_sem,Nat.reduceBEq,rr,y'm]);(first|exact rfl|refine⟨?_,rfl⟩;try omega|refine Op1.callp rfl rfl (cv) rfl ?_;exact⟨rfl,rfl⟩))|refine vs T rfl fun K hK=>?_;(try simp (disch:=omega) only[go_sem,Nat.reduceBEq,Nat.reduceAdd]);(refine hK _ _ ?_;clear hK K)|refine st rfl ?_|refine nl ?_|exact z'n T (z'a _) ⟨rfl,rfl⟩
 all_goals rfl
theorem ZeU (u:Un) (c:Cf) (m r t:Int) (h:t<0∨t≥c.pc.length):Pure Tryz.prog 42 [.agg (unC u),.agg (cfC c),iD m,iD r,iD t] (bD (enT u c m r t)):=by
 rw[Zd4 h]
 refine Fun.of T [.tmp 10] Tryz.func42 rfl Tryz.ntmps42 Tryz.results42 rfl (by kernel_rfl) ?_
 by_cases h1:t<0
 ·have e1:decide (t<0)=true:=by simpa using h1
  repeat' first|refine vb (t:=25) rfl rfl rfl rfl ?_|refine vb (t:=51) rfl rfl rfl rfl ?_|refine vs T rfl fun K hK=>?_;(try simp (disch:=omega) only[go_sem,Nat.reduceBEq,Nat.reduceAdd,e1]);(refine hK _ _ ?_;clear hK K)|refine st rfl ?_|refine sc rfl ?_|refine nl ?_|refine gs rfl rfl ?_|exact z'n T (z'a _) ⟨rfl,rfl⟩
 ·have e1:decide (t<0)=false:=by simpa using h1
  have e2:decide (t≥(c.pc.length:Int))=true:=by simp;omega
  repeat' first|refine vb (t:=25) rfl rfl rfl rfl ?_|refine vb (t:=51) rfl rfl rfl rfl ?_|refine vs T rfl fun K hK=>?_;(try simp (disch:=omega) only[go_sem,Nat.reduceBEq,Nat.reduceAdd,e1,e2,z'k]);(refine hK _ _ ?_;clear hK K)|refine st rfl ?_|refine sc rfl ?_|refine nl ?_|refine gs rfl rfl ?_|exact z'n T (z'a _) ⟨rfl,rfl⟩
theorem x'8 (u:Un) (c:Cf) (hc:OkC c) (m r:Int) {i:Nat} {x:Ins} {row:List Int} {b:List En} (h:Thr u c i x row b):Pure Tryz.prog 42 [.agg (unC u),.agg (cfC c),iD m,iD r,iD (i:Nat)] (bD (enT u c m r (i:Nat))):=by
 rw[ZfB h]
 obtain⟨rw,p,h1,h2,h3,h4⟩:=h.at_.pc
 obtain⟨q,rfl⟩: ∃q:Nat,p=(q:Int):=⟨p.toNat,by omega⟩
 rw[z'f]at h4
 have hr:=h.reg
 have hb:=h.buf
 have l1:=(z'c.1 h1).1
 have l2:=(z'c.1 h2).1
 have l4:=(z'c.1 h4).1
 have hbl:=(z'c.1 hb).1
 have r1:(iRs c.pc)[i]?=some [iD (q:Nat)]:=by rw[y'Q,h1];rfl
 have r2:(x'9 u.code)[i]?=some [.sl false 7 (y'P rw)]:=by rw[x'O,h2];rfl
 have r4:(y'P rw)[q]?=some [iD x.op,iD x.reg,iD x.loc,z'S x.e,z'S x.f,bD x.ne,iD x.to]:=by rw[x'Q,h4];rfl
 have rb:(y'Y c.bufs)[i]?=some [buf b]:=by rw[x'b,hb];rfl
 have kb:=hc.buf b (z'h hb)
 have kr:=hc.row row (z'h hr)
 have d1:decide ((i:Int)<0)=false:=by simp
 have d2:decide ((i:Int)≥(c.pc.length:Int))=false:=by simp;omega
 have c1:=x'X u c i row hr x.e h.e kr
 have c2:=ZgY c hc.buf (i:Nat) x.loc
 have c3:=ZmU b (by omega) m r x.loc
 refine Fun.of T [.tmp 10] Tryz.func42 rfl Tryz.ntmps42 Tryz.results42 rfl (by kernel_rfl) ?_
 by_cases h22:x.op=22
 ·have e22:(x.op == 22)=true:=by simpa using h22
  have hE:enB c m r (i:Nat) x b (z'3 u row x.e)=false:=by simp[enB,h22]
  rw[hE]
  repeat' first|refine vb (t:=25) rfl rfl rfl rfl ?_|refine vb (t:=51) rfl rfl rfl rfl ?_|refine dr (id:=3) T 13 (by kernel_rfl) ?_|refine VCg.nil T ?_;simp only[y'4,WB,Nat.reduceAdd,T56];try(refine fun(bq:Nat) hbq=>?_;(try simp only[HB]at hbq))|(apply VCg.step T rfl rfl);focus((try simp (disch:=omega) only[go_sem,Nat.reduceBEq,Nat.reduceAdd,Nat.reduceLeDiff,r1,r2,r4,z'k,z'Q,z'7]);(first|exact rfl|refine⟨?_,rfl⟩;try omega))|refine VCg.alloc T rfl rfl rfl rfl rfl ?_|refine vs T rfl fun K hK=>?_;(try simp (disch:=omega) only[go_sem,Nat.reduceBEq,Nat.reduceAdd,Nat.reduceLeDiff,d1,d2,z'k,e22]);(refine hK _ _ ?_;clear hK K)|refine st rfl ?_|refine sc rfl ?_|refine nl ?_|refine gs rfl rfl ?_|exact z'n T (z'a _) ⟨rfl,rfl⟩
 have e22:(x.op == 22)=false:=by simpa using h22
 by_cases h4:x.op=4
 ·have e4:(x.op == 4)=true:=by simpa using h4
  have hE:enB c m r (i:Nat) x b (z'3 u row x.e)=((m == 1)||ZaY m r x.loc b):=by simp[enB,h4]
  rw[hE]
  cases hm:(m == 1)with
  |true=>
   repeat' first|refine vb (t:=25) rfl rfl rfl rfl ?_|refine vb (t:=51) rfl rfl rfl rfl ?_|refine dr (id:=3) T 13 (by kernel_rfl) ?_|refine dr (id:=8) T 12 (by kernel_rfl) ?_|refine gn ?_|refine VCg.nil T ?_;simp only[y'4,WB,Nat.reduceAdd,T56];try(refine fun(bq:Nat) hbq=>?_;(try simp only[HB]at hbq))|(apply VCg.step T rfl rfl);focus((try simp (disch:=omega) only[go_sem,Nat.reduceBEq,Nat.reduceAdd,Nat.reduceLeDiff,r1,r2,r4,z'k,z'Q,z'7,hm]);(first|exact rfl|refine⟨?_,rfl⟩;try omega))|refine VCg.alloc T rfl rfl rfl rfl rfl ?_|refine VCg.gstep T rfl rfl rfl rfl ?_;try simp only[GB]|refine vs T rfl fun K hK=>?_;(try simp (disch:=omega) only[go_sem,Nat.reduceBEq,Nat.reduceAdd,Nat.reduceLeDiff,d1,d2,z'k,e22,e4]);(refine hK _ _ ?_;clear hK K)|refine st rfl ?_|refine sc rfl ?_|refine nl ?_|refine gs rfl rfl ?_|exact z'n T (z'a _) ⟨rfl,rfl⟩
   all_goals rfl
  |false=>
   repeat' first|refine vb (t:=25) rfl rfl rfl rfl ?_|refine vb (t:=51) rfl rfl rfl rfl ?_|refine dr (id:=3) T 13 (by kernel_rfl) ?_|refine dr (id:=8) T 12 (by kernel_rfl) ?_|refine gn ?_|refine VCg.nil T ?_;simp only[y'4,WB,Nat.reduceAdd,T56];try(refine fun(bq:Nat) hbq=>?_;(try simp only[HB]at hbq))|(first|apply VCg.step T rfl rfl|apply exF);focus((try simp (disch:=omega) only[go_sem,Nat.reduceBEq,Nat.reduceAdd,Nat.reduceLeDiff,r1,r2,r4,z'k,z'Q,z'7,hm,rb,z'Z]);(first|exact rfl|refine⟨?_,rfl⟩;try omega))|refine VCg.alloc T rfl rfl rfl rfl rfl ?_|refine VCg.gstep T rfl rfl rfl rfl ?_;try simp only[GB]|refine vs T rfl fun K hK=>?_;(try simp (disch:=omega) only[go_sem,Nat.reduceBEq,Nat.reduceAdd,Nat.reduceLeDiff,d1,d2,z'k,e22,e4]);(first|refine hK _ _ ?_;clear hK K|refine Op1.callp rfl rfl (c3) rfl ?_;refine hK _ _ ?_;clear hK K)|refine st rfl ?_|refine sc rfl ?_|refine nl ?_|refine gs rfl rfl ?_|exact z'n T (z'a _) ⟨rfl,rfl⟩
   all_goals rfl
 have e4:(x.op == 4)=false:=by simpa using h4
 by_cases h8:x.op=8
 ·have e8:(x.op == 8)=true:=by simpa using h8
  have hE:enB c m r (i:Nat) x b (z'3 u row x.e)=((b.length:Int) == 0):=by simp[enB,h8]
  rw[hE]
  repeat' first|refine vb (t:=25) rfl rfl rfl rfl ?_|refine vb (t:=51) rfl rfl rfl rfl ?_|refine dr (id:=3) T 13 (by kernel_rfl) ?_|refine VCg.nil T ?_;simp only[y'4,WB,Nat.reduceAdd,T56];try(refine fun(bq:Nat) hbq=>?_;(try simp only[HB]at hbq))|(apply VCg.step T rfl rfl);focus((try simp (disch:=omega) only[go_sem,Nat.reduceBEq,Nat.reduceAdd,Nat.reduceLeDiff,r1,r2,r4,z'k,z'Q,z'7]);(first|exact rfl|refine⟨?_,rfl⟩;try omega))|refine VCg.alloc T rfl rfl rfl rfl rfl ?_|refine vs T rfl fun K hK=>?_;(try simp (disch:=omega) only[go_sem,Nat.reduceBEq,Nat.reduceAdd,Nat.reduceLeDiff,d1,d2,z'k,e22,e4,e8,rb,z'Z,z'A]);(first|refine hK _ _ ?_;clear hK K|refine⟨?_,hK _ _ ?_⟩<;>clear hK K;focus(try omega))|refine st rfl ?_|refine sc rfl ?_|refine nl ?_|refine gs rfl rfl ?_|exact z'n T (z'a _) ⟨rfl,rfl⟩
 have e8:(x.op == 8)=false:=by simpa using h8
 by_cases h5:x.op=5
 ·have e5:(x.op == 5)=true:=by simpa using h5
  have hE:enB c m r (i:Nat) x b (z'3 u row x.e)=((b.length:Int) == 0):=by simp[enB,h5]
  rw[hE]
  repeat' first|refine vb (t:=25) rfl rfl rfl rfl ?_|refine vb (t:=51) rfl rfl rfl rfl ?_|refine dr (id:=3) T 13 (by kernel_rfl) ?_|refine VCg.nil T ?_;simp only[y'4,WB,Nat.reduceAdd,T56];try(refine fun(bq:Nat) hbq=>?_;(try simp only[HB]at hbq))|(apply VCg.step T rfl rfl);focus((try simp (disch:=omega) only[go_sem,Nat.reduceBEq,Nat.reduceAdd,Nat.reduceLeDiff,r1,r2,r4,z'k,z'Q,z'7]);(first|exact rfl|refine⟨?_,rfl⟩;try omega))|refine VCg.alloc T rfl rfl rfl rfl rfl ?_|refine vs T rfl fun K hK=>?_;(try simp (disch:=omega) only[go_sem,Nat.reduceBEq,Nat.reduceAdd,Nat.reduceLeDiff,d1,d2,z'k,e22,e4,e8,e5,rb,z'Z,z'A]);(first|refine hK _ _ ?_;clear hK K|refine⟨?_,hK _ _ ?_⟩<;>clear hK K;focus(try omega))|refine st rfl ?_|refine sc rfl ?_|refine nl ?_|refine gs rfl rfl ?_|exact z'n T (z'a _) ⟨rfl,rfl⟩
 have e5:(x.op == 5)=false:=by simpa using h5
 by_cases h6:x.op=6
 ·have e6:(x.op == 6)=true:=by simpa using h6
  have hE:enB c m r (i:Nat) x b (z'3 u row x.e)=((b.length:Int) == 0):=by simp[enB,h6]
  rw[hE]
  repeat' first|refine vb (t:=25) rfl rfl rfl rfl ?_|refine vb (t:=51) rfl rfl rfl rfl ?_|refine dr (id:=3) T 13 (by kernel_rfl) ?_|refine VCg.nil T ?_;simp only[y'4,WB,Nat.reduceAdd,T56];try(refine fun(bq:Nat) hbq=>?_;(try simp only[HB]at hbq))|(apply VCg.step T rfl rfl);focus((try simp (disch:=omega) only[go_sem,Nat.reduceBEq,Nat.reduceAdd,Nat.reduceLeDiff,r1,r2,r4,z'k,z'Q,z'7]);(first|exact rfl|refine⟨?_,rfl⟩;try omega))|refine VCg.alloc T rfl rfl rfl rfl rfl ?_|refine vs T rfl fun K hK=>?_;(try simp (disch:=omega) only[go_sem,Nat.reduceBEq,Nat.reduceAdd,Nat.reduceLeDiff,d1,d2,z'k,e22,e4,e8,e5,e6,rb,z'Z,z'A]);(first|refine hK _ _ ?_;clear hK K|refine⟨?_,hK _ _ ?_⟩<;>clear hK K;focus(try omega))|refine st rfl ?_|refine sc rfl ?_|refine nl ?_|refine gs rfl rfl ?_|exact z'n T (z'a _) ⟨rfl,rfl⟩
 have e6:(x.op == 6)=false:=by simpa using h6
 by_cases h7:x.op=7
 ·have e7:(x.op == 7)=true:=by simpa using h7
  have hE:enB c m r (i:Nat) x b (z'3 u row x.e)=((b.length:Int) == 0):=by simp[enB,h7]
  rw[hE]
  repeat' first|refine vb (t:=25) rfl rfl rfl rfl ?_|refine vb (t:=51) rfl rfl rfl rfl ?_|refine dr (id:=3) T 13 (by kernel_rfl) ?_|refine VCg.nil T ?_;simp only[y'4,WB,Nat.reduceAdd,T56];try(refine fun(bq:Nat) hbq=>?_;(try simp only[HB]at hbq))|(apply VCg.step T rfl rfl);focus((try simp (disch:=omega) only[go_sem,Nat.reduceBEq,Nat.reduceAdd,Nat.reduceLeDiff,r1,r2,r4,z'k,z'Q,z'7]);(first|exact rfl|refine⟨?_,rfl⟩;try omega))|refine VCg.alloc T rfl rfl rfl rfl rfl ?_|refine vs T rfl fun K hK=>?_;(try simp (disch:=omega) only[go_sem,Nat.reduceBEq,Nat.reduceAdd,Nat.reduceLeDiff,d1,d2,z'k,e22,e4,e8,e5,e6,e7,rb,z'Z,z'A]);(first|refine hK _ _ ?_;clear hK K|refine⟨?_,hK _ _ ?_⟩<;>clear hK K;focus(try omega))|refine st rfl ?_|refine sc rfl ?_|refine nl ?_|refine gs rfl rfl ?_|exact z'n T (z'a _) ⟨rfl,rfl⟩
 have e7:(x.op == 7)=false:=by simpa using h7
 by_cases h9:x.op=9
 ·have e9:(x.op == 9)=true:=by simpa using h9
  have hE:enB c m r (i:Nat) x b (z'3 u row x.e)=((x'u c (i:Nat) x.loc == z'3 u row x.e) != x.ne):=by simp[enB,h9]
  rw[hE]
  repeat' first|refine vb (t:=25) rfl rfl rfl rfl ?_|refine vb (t:=51) rfl rfl rfl rfl ?_|refine dr (id:=3) T 13 (by kernel_rfl) ?_|refine dr (id:=15) T 14 (by kernel_rfl) ?_|refine gn ?_|refine VCg.nil T ?_;simp only[y'4,WB,Nat.reduceAdd,T56];try(refine fun(bq:Nat) hbq=>?_;(try simp only[HB]at hbq))|(apply VCg.step T rfl rfl);focus((try simp (disch:=omega) only[go_sem,Nat.reduceBEq,Nat.reduceAdd,Nat.reduceLeDiff,r1,r2,r4,z'k,z'Q,z'7]);(first|exact rfl|refine⟨?_,rfl⟩;try omega|refine Op1.callp rfl rfl (c1) rfl ?_;exact⟨rfl,rfl⟩|refine Op1.callp rfl rfl (c2) rfl ?_;exact⟨rfl,rfl⟩))|refine VCg.alloc T rfl rfl rfl rfl rfl ?_|refine vs T rfl fun K hK=>?_;(try simp (disch:=omega) only[go_sem,Nat.reduceBEq,Nat.reduceAdd,Nat.reduceLeDiff,d1,d2,z'k,e22,e4,e8,e5,e6,e7,e9]);(refine hK _ _ ?_;clear hK K)|refine st rfl ?_|refine sc rfl ?_|refine nl ?_|refine gs rfl rfl ?_|exact z'n T (z'a _) ⟨rfl,rfl⟩
 have e9:(x.op == 9)=false:=by simpa using h9
 have hE:enB c m r (i:Nat) x b (z'3 u row x.e)=true:=by simp[enB,h22,h4,h8,h5,h6,h7,h9]
 rw[hE]
 repeat' first|refine vb (t:=25) rfl rfl rfl rfl ?_|refine vb (t:=51) rfl rfl rfl rfl ?_|refine dr (id:=3) T 13 (by kernel_rfl) ?_|refine VCg.nil T ?_;simp only[y'4,WB,Nat.reduceAdd,T56];try(refine fun(bq:Nat) hbq=>?_;(try simp only[HB]at hbq))|(apply VCg.step T rfl rfl);focus((try simp (disch:=omega) only[go_sem,Nat.reduceBEq,Nat.reduceAdd,Nat.reduceLeDiff,r1,r2,r4,z'k,z'Q,z'7]);(first|exact rfl|refine⟨?_,rfl⟩;try omega))|refine VCg.alloc T rfl rfl rfl rfl rfl ?_|refine vs T rfl fun K hK=>?_;(try simp (disch:=omega) only[go_sem,Nat.reduceBEq,Nat.reduceAdd,Nat.reduceLeDiff,d1,d2,z'k,e22,e4,e8,e5,e6,e7,e9]);(refine hK _ _ ?_;clear hK K)|refine st rfl ?_|refine sc rfl ?_|refine nl ?_|refine gs rfl rfl ?_|exact z'n T (z'a _) ⟨rfl,rfl⟩
end Go.Proofs.YtfneeacgkdhldaaGreat
