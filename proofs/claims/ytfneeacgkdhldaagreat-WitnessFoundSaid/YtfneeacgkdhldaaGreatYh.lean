/- What a thread can; a thread at its instruction. No condition. -/
import Derived.Test.YtfneeacgkdhldaaGreatYc
import Derived.Test.YtfneeacgkdhldaaGreatYe
namespace Go.Proofs.YtfneeacgkdhldaaGreat
set_option maxHeartbeats 16000000
set_option linter.unusedSimpArgs false
set_option linter.unusedVariables false
set_option maxRecDepth 20000
open Go Go.Proofs Go.Vc
attribute [local irreducible] y'5 VCg VCw VCx
abbrev doC (u:Un) (d0 d1 d2 d3:D) (m r t:Int) (x:Ins):List D:=
 [iD u.md,z'C u.init,z'C u.regs,.sl false 1 (x'9 u.code),d0,d1,d2,d3,iD m,iD r,iD t,iD x.op,iD x.reg,iD x.loc,z'S x.e,z'S x.f,bD x.ne,iD x.to]
abbrev doF (u:Un) (c:Cf) (m r t:Int) (x:Ins):List D:=doC u (z'C c.pc) (.sl false 1 (y'V c.regs)) (z'C c.mem) (.sl false 1 (y'Y c.bufs)) m r t x
def z'3 (u:Un) (row:List Int) (l:List Opc):Int:=Zc2 l u.md row [] []
theorem v'I (u:Un) (c:Cf) (m r:Int) (i:Nat) (x:Ins) (row:List Int) (hr:c.regs[i]?=some row) (l:List Opc) (hl:l.length≤1000) (hrl:row.length≤1000):Pure Tryz.prog 167 [.pt (doF u c m r (i:Nat) x),z'S l] (iD (z'3 u row l)):=by
 have rr:(y'V c.regs)[i]?=some [z'C row]:=by rw[w'Z,hr];rfl
 have hil:=(z'c.1 hr).1
 have cv:Pure Tryz.prog 174 [z'S l,iD u.md,z'C row,.gs none 0,.gs none 0] (.tup [iD (Zc2 l u.md row [] []),bD (v'V l u.md row [] [])]):=
  Fun.argsW (Zm6 l u.md row [] [] ⟨hl,hrl,by simp,by simp,by simp⟩) (z't (Fz.refl _ _) (z't (Fz.refl _ _) (z't (Fz.refl _ _) (z't y'q (z't y'q x'T)))))
 refine Fun.of T [.tmp 4] Tryz.func167 rfl Tryz.ntmps167 Tryz.results167 rfl (by kernel_rfl) ?_
 repeat' first|refine dr (id:=1) T 22 (by kernel_rfl) ?_|refine gn ?_|apply VCg.step T rfl rfl;focus((try simp (disch:=omega) only[go_sem,Nat.reduceBEq,rr,y'm]);(first|exact rfl|refine⟨?_,rfl⟩;try omega|refine Op1.callp rfl rfl (cv) rfl ?_;exact⟨rfl,rfl⟩))|refine vs T rfl fun K hK=>?_;(try simp (disch:=omega) only[go_sem,Nat.reduceBEq]);(refine hK _ _ ?_;clear hK K)|refine st rfl ?_|refine nl ?_|exact z'n T (z'a _) ⟨rfl,rfl⟩
 all_goals rfl
def enB (c:Cf) (m r:Int) (t:Int) (x:Ins) (b:List En) (e:Int):Bool:=
 if x.op=22 then false else if x.op=4 then(m == 1)||ZaY m r x.loc b else if x.op=8∨x.op=5∨x.op=6∨x.op=7 then(b.length:Int) == 0 else if x.op=9 then((x'u c t x.loc == e) != x.ne)else true
theorem ZfC (u:Un) (c:Cf) (hc:OkC c) (m r:Int) (i:Nat) (x:Ins) (hx:x.e.length≤1000) (row:List Int) (hr:c.regs[i]?=some row) (b:List En) (hb:c.bufs[i]?=some b):
  Pure Tryz.prog 155 [.pt (doF u c m r (i:Nat) x)] (bD (enB c m r (i:Nat) x b (z'3 u row x.e))):=by
 have rb:(y'Y c.bufs)[i]?=some [buf b]:=by rw[x'b,hb];rfl
 have hbl:=(z'c.1 hb).1
 have kb:=hc.buf b (z'h hb)
 have kr:=hc.row row (z'h hr)
 have c1:=v'I u c m r i x row hr x.e hx kr
 have c2:=Zh8 c hc.buf (i:Nat) x.loc
 have c3:=ZoA b (by omega) m r x.loc
 refine Fun.of T [.tmp 2] Tryz.func155 rfl Tryz.ntmps155 Tryz.results155 rfl (by kernel_rfl) ?_
 by_cases h22:x.op=22
 ·have e22:(x.op == 22)=true:=by simpa using h22
  have hE:enB c m r (i:Nat) x b (z'3 u row x.e)=false:=by simp[enB,h22]
  rw[hE]
  repeat' first|refine vs T rfl fun K hK=>?_;(try simp (disch:=omega) only[go_sem,Nat.reduceBEq,e22]);(refine hK _ _ ?_;clear hK K)|refine st rfl ?_|refine sc rfl ?_|refine nl ?_|exact z'n T (z'a _) ⟨rfl,rfl⟩
 have e22:(x.op == 22)=false:=by simpa using h22
 by_cases h4:x.op=4
 ·have e4:(x.op == 4)=true:=by simpa using h4
  have hE:enB c m r (i:Nat) x b (z'3 u row x.e)=((m == 1)||ZaY m r x.loc b):=by simp[enB,h4]
  rw[hE]
  cases hm:(m == 1)with
  |true=>
   repeat' first|refine dr (id:=5) T 30 (by kernel_rfl) ?_|refine gn ?_|(apply VCg.step T rfl rfl);focus((try simp (disch:=omega) only[go_sem,Nat.reduceBEq,hm]);(exact rfl))|refine VCg.gstep T rfl rfl rfl rfl ?_;try simp only[GB]|refine vs T rfl fun K hK=>?_;(try simp (disch:=omega) only[go_sem,Nat.reduceBEq,e22,e4]);(refine hK _ _ ?_;clear hK K)|refine st rfl ?_|refine sc rfl ?_|refine nl ?_|refine gs rfl rfl ?_|exact z'n T (z'a _) ⟨rfl,rfl⟩
   all_goals rfl
  |false=>
   repeat' first|refine dr (id:=5) T 30 (by kernel_rfl) ?_|refine gn ?_|(first|apply VCg.step T rfl rfl|apply exF);focus((try simp (disch:=omega) only[go_sem,Nat.reduceBEq,hm,rb,z'Z]);(first|exact rfl|refine⟨?_,rfl⟩;try omega))|refine VCg.gstep T rfl rfl rfl rfl ?_;try simp only[GB]|refine vs T rfl fun K hK=>?_;(try simp (disch:=omega) only[go_sem,Nat.reduceBEq,e22,e4]);(first|refine hK _ _ ?_;clear hK K|refine Op1.callp rfl rfl (c3) rfl ?_;refine hK _ _ ?_;clear hK K)|refine st rfl ?_|refine sc rfl ?_|refine nl ?_|refine gs rfl rfl ?_|exact z'n T (z'a _) ⟨rfl,rfl⟩
   all_goals rfl
 have e4:(x.op == 4)=false:=by simpa using h4
 by_cases h8:x.op=8
 ·have e8:(x.op == 8)=true:=by simpa using h8
  have hE:enB c m r (i:Nat) x b (z'3 u row x.e)=((b.length:Int) == 0):=by simp[enB,h8]
  rw[hE]
  repeat' first|refine dr (id:=10) T 9 (by kernel_rfl) ?_|refine gn ?_|(apply VCg.step T rfl rfl);focus((try simp (disch:=omega) only[go_sem,Nat.reduceBEq]);(exact rfl))|refine vs T rfl fun K hK=>?_;(try simp (disch:=omega) only[go_sem,Nat.reduceBEq,e22,e4,e8,rb,z'Z,z'A]);(first|refine hK _ _ ?_;clear hK K|refine⟨?_,hK _ _ ?_⟩<;>clear hK K;focus(try omega))|refine st rfl ?_|refine sc rfl ?_|refine nl ?_|exact z'n T (z'a _) ⟨rfl,rfl⟩
 have e8:(x.op == 8)=false:=by simpa using h8
 by_cases h5:x.op=5
 ·have e5:(x.op == 5)=true:=by simpa using h5
  have hE:enB c m r (i:Nat) x b (z'3 u row x.e)=((b.length:Int) == 0):=by simp[enB,h5]
  rw[hE]
  repeat' first|refine dr (id:=10) T 9 (by kernel_rfl) ?_|refine gn ?_|(apply VCg.step T rfl rfl);focus((try simp (disch:=omega) only[go_sem,Nat.reduceBEq]);(exact rfl))|refine vs T rfl fun K hK=>?_;(try simp (disch:=omega) only[go_sem,Nat.reduceBEq,e22,e4,e8,e5,rb,z'Z,z'A]);(first|refine hK _ _ ?_;clear hK K|refine⟨?_,hK _ _ ?_⟩<;>clear hK K;focus(try omega))|refine st rfl ?_|refine sc rfl ?_|refine nl ?_|exact z'n T (z'a _) ⟨rfl,rfl⟩
 have e5:(x.op == 5)=false:=by simpa using h5
 by_cases h6:x.op=6
 ·have e6:(x.op == 6)=true:=by simpa using h6
  have hE:enB c m r (i:Nat) x b (z'3 u row x.e)=((b.length:Int) == 0):=by simp[enB,h6]
  rw[hE]
  repeat' first|refine dr (id:=10) T 9 (by kernel_rfl) ?_|refine gn ?_|(apply VCg.step T rfl rfl);focus((try simp (disch:=omega) only[go_sem,Nat.reduceBEq]);(exact rfl))|refine vs T rfl fun K hK=>?_;(try simp (disch:=omega) only[go_sem,Nat.reduceBEq,e22,e4,e8,e5,e6,rb,z'Z,z'A]);(first|refine hK _ _ ?_;clear hK K|refine⟨?_,hK _ _ ?_⟩<;>clear hK K;focus(try omega))|refine st rfl ?_|refine sc rfl ?_|refine nl ?_|exact z'n T (z'a _) ⟨rfl,rfl⟩
 have e6:(x.op == 6)=false:=by simpa using h6
 by_cases h7:x.op=7
 ·have e7:(x.op == 7)=true:=by simpa using h7
  have hE:enB c m r (i:Nat) x b (z'3 u row x.e)=((b.length:Int) == 0):=by simp[enB,h7]
  rw[hE]
  repeat' first|refine dr (id:=10) T 9 (by kernel_rfl) ?_|refine gn ?_|(apply VCg.step T rfl rfl);focus((try simp (disch:=omega) only[go_sem,Nat.reduceBEq]);(exact rfl))|refine vs T rfl fun K hK=>?_;(try simp (disch:=omega) only[go_sem,Nat.reduceBEq,e22,e4,e8,e5,e6,e7,rb,z'Z,z'A]);(first|refine hK _ _ ?_;clear hK K|refine⟨?_,hK _ _ ?_⟩<;>clear hK K;focus(try omega))|refine st rfl ?_|refine sc rfl ?_|refine nl ?_|exact z'n T (z'a _) ⟨rfl,rfl⟩
 have e7:(x.op == 7)=false:=by simpa using h7
 by_cases h9:x.op=9
 ·have e9:(x.op == 9)=true:=by simpa using h9
  have hE:enB c m r (i:Nat) x b (z'3 u row x.e)=((x'u c (i:Nat) x.loc == z'3 u row x.e) != x.ne):=by simp[enB,h9]
  rw[hE]
  repeat' first|refine dr (id:=12) T 20 (by kernel_rfl) ?_|refine gn ?_|(apply VCg.step T rfl rfl);focus((try simp (disch:=omega) only[go_sem,Nat.reduceBEq,Nat.reduceAdd,Nat.reduceLeDiff]);(first|exact rfl|refine Op1.callp rfl rfl (c2) rfl ?_;exact⟨rfl,rfl⟩))|refine vs T rfl fun K hK=>?_;(try simp (disch:=omega) only[go_sem,Nat.reduceBEq,e22,e4,e8,e5,e6,e7,e9]);(first|refine hK _ _ ?_;clear hK K|refine Op1.callp rfl rfl (c1) rfl ?_;refine hK _ _ ?_;clear hK K)|refine st rfl ?_|refine sc rfl ?_|refine nl ?_|exact z'n T (z'a _) ⟨rfl,rfl⟩
 have e9:(x.op == 9)=false:=by simpa using h9
 have hE:enB c m r (i:Nat) x b (z'3 u row x.e)=true:=by simp[enB,h22,h4,h8,h5,h6,h7,h9]
 rw[hE]
 repeat' first|refine vs T rfl fun K hK=>?_;(try simp (disch:=omega) only[go_sem,Nat.reduceBEq,e22,e4,e8,e5,e6,e7,e9]);(refine hK _ _ ?_;clear hK K)|refine st rfl ?_|refine sc rfl ?_|refine nl ?_|exact z'n T (z'a _) ⟨rfl,rfl⟩
structure AtX (u:Un) (c:Cf) (i:Nat) (x:Ins):Prop where
 pc: ∃rw p,c.pc[i]?=some p∧u.code[i]?=some rw∧0≤p∧rw[p.toNat]?=some x
theorem ZpT (u:Un) (c:Cf) (m r:Int) (i:Nat) (x:Ins) (hx:AtX u c i x):Pure Tryz.prog 154 [.agg (unC u),.agg (cfC c),iD m,iD r,iD (i:Nat)] (.tup [.pt (doF u c m r (i:Nat) x),bD true]):=by
 obtain⟨rw,p,h1,h2,h3,h4⟩:=hx.pc
 obtain⟨q,rfl⟩: ∃q:Nat,p=(q:Int):=⟨p.toNat,by omega⟩
 rw[z'f]at h4
 have l1:=(z'c.1 h1).1
 have l2:=(z'c.1 h2).1
 have l4:=(z'c.1 h4).1
 have r1:(iRs c.pc)[i]?=some [iD (q:Nat)]:=by rw[y'Q,h1];rfl
 have r2:(x'9 u.code)[i]?=some [.sl false 7 (y'P rw)]:=by rw[x'O,h2];rfl
 have r4:(y'P rw)[q]?=some [iD x.op,iD x.reg,iD x.loc,z'S x.e,z'S x.f,bD x.ne,iD x.to]:=by rw[x'Q,h4];rfl
 have e1:decide ((i:Int)<0)=false:=by simp
 have e2:decide ((i:Int)≥(c.pc.length:Int))=false:=by simp;omega
 refine Fun.of T [.tmp 10,.tmp 11] Tryz.func154 rfl Tryz.ntmps154 Tryz.results154 rfl (by kernel_rfl) ?_
 repeat' first|refine vb rfl rfl rfl rfl ?_|refine dr (id:=3) T 17 (by kernel_rfl) ?_|refine gn ?_|(apply VCg.step T rfl rfl);focus((try simp (disch:=omega) only[go_sem,Nat.reduceBEq,Nat.reduceAdd,Nat.reduceLeDiff,r1,r2,r4,z'k,z'Q,z'7]);(first|exact rfl|refine⟨?_,rfl⟩;try omega))|refine vs T rfl fun K hK=>?_;(try simp (disch:=omega) only[go_sem,Nat.reduceBEq,Nat.reduceAdd,e1,e2,z'k]);(refine hK _ _ ?_;clear hK K)|refine st rfl ?_|refine sc rfl ?_|refine nl ?_|refine gs rfl rfl ?_|exact y'9 T (z'a _) ⟨rfl,rfl⟩
 all_goals rfl
theorem Znb (u:Un) (c:Cf) (m r t:Int) (h:t<0∨t≥c.pc.length):Pure Tryz.prog 154 [.agg (unC u),.agg (cfC c),iD m,iD r,iD t] (.tup [.is (.pointer none),bD false]):=by
 refine Fun.of T [.tmp 10,.tmp 11] Tryz.func154 rfl Tryz.ntmps154 Tryz.results154 rfl (by kernel_rfl) ?_
 by_cases h1:t<0
 ·have e1:decide (t<0)=true:=by simpa using h1
  repeat' first|refine vb rfl rfl rfl rfl ?_|refine vs T rfl fun K hK=>?_;(try simp (disch:=omega) only[go_sem,Nat.reduceBEq,Nat.reduceAdd,e1]);(refine hK _ _ ?_;clear hK K)|refine st rfl ?_|refine sc rfl ?_|refine nl ?_|refine gs rfl rfl ?_|exact y'9 T (z'a _) ⟨rfl,rfl⟩
  all_goals rfl
 ·have e1:decide (t<0)=false:=by simpa using h1
  have e2:decide (t≥(c.pc.length:Int))=true:=by simp;omega
  repeat' first|refine vb rfl rfl rfl rfl ?_|refine vs T rfl fun K hK=>?_;(try simp (disch:=omega) only[go_sem,Nat.reduceBEq,Nat.reduceAdd,e1,e2,z'k]);(refine hK _ _ ?_;clear hK K)|refine st rfl ?_|refine sc rfl ?_|refine nl ?_|refine gs rfl rfl ?_|exact y'9 T (z'a _) ⟨rfl,rfl⟩
  all_goals rfl
def Zgg (u:Un) (c:Cf) (i:Nat):Option Ins:=(u.code[i]?).bind fun rw=>(c.pc[i]?).bind fun p=>if 0≤p then rw[p.toNat]? else none
theorem AtX.ins {u:Un} {c:Cf} {i:Nat} {x:Ins} (h:AtX u c i x):Zgg u c i=some x:=by
 obtain⟨rw,p,h1,h2,h3,h4⟩:=h.pc
 simp[Zgg,h1,h2,h3,h4]
def enT (u:Un) (c:Cf) (m r t:Int):Bool:=match decide (0≤t),Zgg u c t.toNat with
 |true,some x=>enB c m r t x (c.bufs.getD t.toNat []) (z'3 u (c.regs.getD t.toNat []) x.e)
 |_,_=>false
structure Thr (u:Un) (c:Cf) (i:Nat) (x:Ins) (row:List Int) (b:List En):Prop where
 at_:AtX u c i x
 reg:c.regs[i]?=some row
 buf:c.bufs[i]?=some b
 e:x.e.length≤1000
 f:x.f.length≤1000
theorem ZfB {u:Un} {c:Cf} {m r:Int} {i:Nat} {x:Ins} {row:List Int} {b:List En} (h:Thr u c i x row b):enT u c m r (i:Nat)=enB c m r (i:Nat) x b (z'3 u row x.e):=by
 simp[enT,h.at_.ins,h.reg,h.buf,z'e]
theorem Zd4 {u:Un} {c:Cf} {m r t:Int} (h:t<0∨t≥c.pc.length):enT u c m r t=false:=by
 unfold enT
 rcases h with h|h
 ·rw[decide_eq_false (by omega)]
 ·have:Zgg u c t.toNat=none:=by
   unfold Zgg
   rw[z'z (show c.pc.length≤t.toNat by omega)]
   cases u.code[t.toNat]?<;>rfl
  rw[this]
  split<;>simp_all
theorem ZjA (u:Un) (c:Cf) (m r t:Int) (h:t<0∨t≥c.pc.length):Pure Tryz.prog 153 [.agg (unC u),.agg (cfC c),iD m,iD r,iD t] (bD (enT u c m r t)):=by
 rw[Zd4 h]
 have c1:=Znb u c m r t h
 refine Fun.of T [.tmp 10] Tryz.func153 rfl Tryz.ntmps153 Tryz.results153 rfl (by kernel_rfl) ?_
 repeat' first|refine vb rfl rfl rfl rfl ?_|refine vs T rfl fun K hK=>?_;(try simp (disch:=omega) only[go_sem,Nat.reduceBEq,Nat.reduceAdd,Nat.reduceLeDiff]);(first|refine hK _ _ ?_;clear hK K|refine Op1.callp rfl rfl (c1) rfl ?_;refine hK _ _ ?_;clear hK K)|refine st rfl ?_|refine nl ?_|refine gs rfl rfl ?_|exact z'n T (z'a _) ⟨rfl,rfl⟩
theorem Zjz (u:Un) (c:Cf) (hc:OkC c) (m r:Int) {i:Nat} {x:Ins} {row:List Int} {b:List En} (h:Thr u c i x row b):Pure Tryz.prog 153 [.agg (unC u),.agg (cfC c),iD m,iD r,iD (i:Nat)] (bD (enT u c m r (i:Nat))):=by
 rw[ZfB h]
 have c1:=ZpT u c m r i x h.at_
 have c2:=ZfC u c hc m r i x h.e row h.reg b h.buf
 refine Fun.of T [.tmp 10] Tryz.func153 rfl Tryz.ntmps153 Tryz.results153 rfl (by kernel_rfl) ?_
 repeat' first|refine vb rfl rfl rfl rfl ?_|refine vs T rfl fun K hK=>?_;(try simp (disch:=omega) only[go_sem,Nat.reduceBEq,Nat.reduceAdd,Nat.reduceLeDiff]);(first|refine hK _ _ ?_;clear hK K|refine Op1.callp rfl rfl (c1) rfl ?_;refine hK _ _ ?_;clear hK K|refine Op1.callp rfl rfl (c2) rfl ?_;refine hK _ _ ?_;clear hK K)|refine st rfl ?_|refine nl ?_|refine gs rfl rfl ?_|exact z'n T (z'a _) ⟨rfl,rfl⟩
end Go.Proofs.YtfneeacgkdhldaaGreat
