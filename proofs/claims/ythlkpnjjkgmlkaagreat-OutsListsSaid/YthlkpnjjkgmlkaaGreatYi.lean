/- What a thread can; a thread at its instruction. No condition. -/
import Derived.Test.YthlkpnjjkgmlkaaGreatYf
import Derived.Test.YthlkpnjjkgmlkaaGreatYe
namespace Go.Proofs.YthlkpnjjkgmlkaaGreat
set_option maxHeartbeats 16000000
set_option linter.unusedSimpArgs false
set_option linter.unusedVariables false
set_option maxRecDepth 20000
open Go Go.Proofs Go.Vc
attribute [local irreducible] x'c VCg VCw VCx
abbrev doC (u:Un) (d0 d1 d2 d3:D) (m r t:Int) (x:Ins):List D:=
 [iD u.md,y'c u.init,y'c u.regs,.sl false 1 (Zax u.code),d0,d1,d2,d3,iD m,iD r,iD t,iD x.op,iD x.reg,iD x.loc,y'8 x.e,y'8 x.f,bD x.ne,iD x.to]
abbrev doF (u:Un) (c:Cf) (m r t:Int) (x:Ins):List D:=doC u (y'c c.pc) (.sl false 1 (x'X c.regs)) (y'c c.mem) (.sl false 1 (x'6 c.bufs)) m r t x
def y'P (u:Un) (row:List Int) (l:List Opc):Int:=ZfI l u.md row [] []
theorem w'6 (u:Un) (c:Cf) (m r:Int) (i:Nat) (x:Ins) (row:List Int) (hr:c.regs[i]?=some row) (l:List Opc) (hl:l.length≤1000) (hrl:row.length≤1000):Pure Tryz.prog 333 [.pt (doF u c m r (i:Nat) x),y'8 l] (iD (y'P u row l)):=by
 have rr:(x'X c.regs)[i]?=some [y'c row]:=by rw[Zaa,hr];rfl
 have hil:=(z'g.1 hr).1
 have cv:Pure Tryz.prog 69 [y'8 l,iD u.md,y'c row,.gs none 0,.gs none 0] (.tup [iD (ZfI l u.md row [] []),bD (ZbT l u.md row [] [])]):=
  Fun.argsW (Zrj l u.md row [] [] ⟨hl,hrl,by simp,by simp,by simp⟩) (z'4 (Fz.refl _ _) (z'4 (Fz.refl _ _) (z'4 (Fz.refl _ _) (z'4 w'v (z'4 w'v v'o)))))
 refine Fun.of T [.tmp 4] Tryz.func333 rfl Tryz.ntmps333 Tryz.results333 rfl (by kernel_rfl) ?_
 repeat' first|refine dr (id:=1) T 22 (by kernel_rfl) ?_|refine gn ?_|apply VCg.step T rfl rfl;focus((try simp (disch:=omega) only[go_sem,Nat.reduceBEq,rr,y'4]);(first|exact rfl|refine⟨?_,rfl⟩;try omega|refine Op1.callp rfl rfl (cv) rfl ?_;exact⟨rfl,rfl⟩))|refine vs T rfl fun K hK=>?_;(try simp (disch:=omega) only[go_sem,Nat.reduceBEq]);(refine hK _ _ ?_;clear hK K)|refine st rfl ?_|refine nl ?_|exact z'A T (z'a _) ⟨rfl,rfl⟩
 all_goals rfl
def enB (c:Cf) (m r:Int) (t:Int) (x:Ins) (b:List En) (e:Int):Bool:=
 if x.op=22 then false else if x.op=4 then(m == 1)||Zcz m r x.loc b else if x.op=8∨x.op=5∨x.op=6∨x.op=7 then(b.length:Int) == 0 else if x.op=9 then((w'g c t x.loc == e) != x.ne)else true
theorem Zhj (u:Un) (c:Cf) (hc:OkC c) (m r:Int) (i:Nat) (x:Ins) (hx:x.e.length≤1000) (row:List Int) (hr:c.regs[i]?=some row) (b:List En) (hb:c.bufs[i]?=some b):
  Pure Tryz.prog 321 [.pt (doF u c m r (i:Nat) x)] (bD (enB c m r (i:Nat) x b (y'P u row x.e))):=by
 have rb:(x'6 c.bufs)[i]?=some [buf b]:=by rw[v'y,hb];rfl
 have hbl:=(z'g.1 hb).1
 have kb:=hc.buf b (z'l hb)
 have kr:=hc.row row (z'l hr)
 have c1:=w'6 u c m r i x row hr x.e hx kr
 have c2:=Zlk c hc.buf (i:Nat) x.loc
 have c3:=ZsL b (by omega) m r x.loc
 refine Fun.of T [.tmp 2] Tryz.func321 rfl Tryz.ntmps321 Tryz.results321 rfl (by kernel_rfl) ?_
 by_cases h22:x.op=22
 ·have e22:(x.op == 22)=true:=by simpa using h22
  have hE:enB c m r (i:Nat) x b (y'P u row x.e)=false:=by simp[enB,h22]
  rw[hE]
  repeat' first|refine vs T rfl fun K hK=>?_;(try simp (disch:=omega) only[go_sem,Nat.reduceBEq,e22]);(refine hK _ _ ?_;clear hK K)|refine st rfl ?_|refine sc rfl ?_|refine nl ?_|exact z'A T (z'a _) ⟨rfl,rfl⟩
 have e22:(x.op == 22)=false:=by simpa using h22
 by_cases h4:x.op=4
 ·have e4:(x.op == 4)=true:=by simpa using h4
  have hE:enB c m r (i:Nat) x b (y'P u row x.e)=((m == 1)||Zcz m r x.loc b):=by simp[enB,h4]
  rw[hE]
  cases hm:(m == 1)with
  |true=>
   repeat' first|refine dr (id:=5) T 30 (by kernel_rfl) ?_|refine gn ?_|(apply VCg.step T rfl rfl);focus((try simp (disch:=omega) only[go_sem,Nat.reduceBEq,hm]);(exact rfl))|refine VCg.gstep T rfl rfl rfl rfl ?_;try simp only[GB]|refine vs T rfl fun K hK=>?_;(try simp (disch:=omega) only[go_sem,Nat.reduceBEq,e22,e4]);(refine hK _ _ ?_;clear hK K)|refine st rfl ?_|refine sc rfl ?_|refine nl ?_|refine gs rfl rfl ?_|exact z'A T (z'a _) ⟨rfl,rfl⟩
   all_goals rfl
  |false=>
   repeat' first|refine dr (id:=5) T 30 (by kernel_rfl) ?_|refine gn ?_|(first|apply VCg.step T rfl rfl|apply exF);focus((try simp (disch:=omega) only[go_sem,Nat.reduceBEq,hm,rb,y'u]);(first|exact rfl|refine⟨?_,rfl⟩;try omega))|refine VCg.gstep T rfl rfl rfl rfl ?_;try simp only[GB]|refine vs T rfl fun K hK=>?_;(try simp (disch:=omega) only[go_sem,Nat.reduceBEq,e22,e4]);(first|refine hK _ _ ?_;clear hK K|refine Op1.callp rfl rfl (c3) rfl ?_;refine hK _ _ ?_;clear hK K)|refine st rfl ?_|refine sc rfl ?_|refine nl ?_|refine gs rfl rfl ?_|exact z'A T (z'a _) ⟨rfl,rfl⟩
   all_goals rfl
 have e4:(x.op == 4)=false:=by simpa using h4
 by_cases h8:x.op=8
 ·have e8:(x.op == 8)=true:=by simpa using h8
  have hE:enB c m r (i:Nat) x b (y'P u row x.e)=((b.length:Int) == 0):=by simp[enB,h8]
  rw[hE]
  repeat' first|refine dr (id:=10) T 9 (by kernel_rfl) ?_|refine gn ?_|(apply VCg.step T rfl rfl);focus((try simp (disch:=omega) only[go_sem,Nat.reduceBEq]);(exact rfl))|refine vs T rfl fun K hK=>?_;(try simp (disch:=omega) only[go_sem,Nat.reduceBEq,e22,e4,e8,rb,y'u,z'7]);(first|refine hK _ _ ?_;clear hK K|refine⟨?_,hK _ _ ?_⟩<;>clear hK K;focus(try omega))|refine st rfl ?_|refine sc rfl ?_|refine nl ?_|exact z'A T (z'a _) ⟨rfl,rfl⟩
 have e8:(x.op == 8)=false:=by simpa using h8
 by_cases h5:x.op=5
 ·have e5:(x.op == 5)=true:=by simpa using h5
  have hE:enB c m r (i:Nat) x b (y'P u row x.e)=((b.length:Int) == 0):=by simp[enB,h5]
  rw[hE]
  repeat' first|refine dr (id:=10) T 9 (by kernel_rfl) ?_|refine gn ?_|(apply VCg.step T rfl rfl);focus((try simp (disch:=omega) only[go_sem,Nat.reduceBEq]);(exact rfl))|refine vs T rfl fun K hK=>?_;(try simp (disch:=omega) only[go_sem,Nat.reduceBEq,e22,e4,e8,e5,rb,y'u,z'7]);(first|refine hK _ _ ?_;clear hK K|refine⟨?_,hK _ _ ?_⟩<;>clear hK K;focus(try omega))|refine st rfl ?_|refine sc rfl ?_|refine nl ?_|exact z'A T (z'a _) ⟨rfl,rfl⟩
 have e5:(x.op == 5)=false:=by simpa using h5
 by_cases h6:x.op=6
 ·have e6:(x.op == 6)=true:=by simpa using h6
  have hE:enB c m r (i:Nat) x b (y'P u row x.e)=((b.length:Int) == 0):=by simp[enB,h6]
  rw[hE]
  repeat' first|refine dr (id:=10) T 9 (by kernel_rfl) ?_|refine gn ?_|(apply VCg.step T rfl rfl);focus((try simp (disch:=omega) only[go_sem,Nat.reduceBEq]);(exact rfl))|refine vs T rfl fun K hK=>?_;(try simp (disch:=omega) only[go_sem,Nat.reduceBEq,e22,e4,e8,e5,e6,rb,y'u,z'7]);(first|refine hK _ _ ?_;clear hK K|refine⟨?_,hK _ _ ?_⟩<;>clear hK K;focus(try omega))|refine st rfl ?_|refine sc rfl ?_|refine nl ?_|exact z'A T (z'a _) ⟨rfl,rfl⟩
 have e6:(x.op == 6)=false:=by simpa using h6
 by_cases h7:x.op=7
 ·have e7:(x.op == 7)=true:=by simpa using h7
  have hE:enB c m r (i:Nat) x b (y'P u row x.e)=((b.length:Int) == 0):=by simp[enB,h7]
  rw[hE]
  repeat' first|refine dr (id:=10) T 9 (by kernel_rfl) ?_|refine gn ?_|(apply VCg.step T rfl rfl);focus((try simp (disch:=omega) only[go_sem,Nat.reduceBEq]);(exact rfl))|refine vs T rfl fun K hK=>?_;(try simp (disch:=omega) only[go_sem,Nat.reduceBEq,e22,e4,e8,e5,e6,e7,rb,y'u,z'7]);(first|refine hK _ _ ?_;clear hK K|refine⟨?_,hK _ _ ?_⟩<;>clear hK K;focus(try omega))|refine st rfl ?_|refine sc rfl ?_|refine nl ?_|exact z'A T (z'a _) ⟨rfl,rfl⟩
 have e7:(x.op == 7)=false:=by simpa using h7
 by_cases h9:x.op=9
 ·have e9:(x.op == 9)=true:=by simpa using h9
  have hE:enB c m r (i:Nat) x b (y'P u row x.e)=((w'g c (i:Nat) x.loc == y'P u row x.e) != x.ne):=by simp[enB,h9]
  rw[hE]
  repeat' first|refine dr (id:=12) T 20 (by kernel_rfl) ?_|refine gn ?_|(apply VCg.step T rfl rfl);focus((try simp (disch:=omega) only[go_sem,Nat.reduceBEq,Nat.reduceAdd,Nat.reduceLeDiff]);(first|exact rfl|refine Op1.callp rfl rfl (c2) rfl ?_;exact⟨rfl,rfl⟩))|refine vs T rfl fun K hK=>?_;(try simp (disch:=omega) only[go_sem,Nat.reduceBEq,e22,e4,e8,e5,e6,e7,e9]);(first|refine hK _ _ ?_;clear hK K|refine Op1.callp rfl rfl (c1) rfl ?_;refine hK _ _ ?_;clear hK K)|refine st rfl ?_|refine sc rfl ?_|refine nl ?_|exact z'A T (z'a _) ⟨rfl,rfl⟩
 have e9:(x.op == 9)=false:=by simpa using h9
 have hE:enB c m r (i:Nat) x b (y'P u row x.e)=true:=by simp[enB,h22,h4,h8,h5,h6,h7,h9]
 rw[hE]
 repeat' first|refine vs T rfl fun K hK=>?_;(try simp (disch:=omega) only[go_sem,Nat.reduceBEq,e22,e4,e8,e5,e6,e7,e9]);(refine hK _ _ ?_;clear hK K)|refine st rfl ?_|refine sc rfl ?_|refine nl ?_|exact z'A T (z'a _) ⟨rfl,rfl⟩
structure AtX (u:Un) (c:Cf) (i:Nat) (x:Ins):Prop where
 pc: ∃rw p,c.pc[i]?=some p∧u.code[i]?=some rw∧0≤p∧rw[p.toNat]?=some x
theorem Zt6 (u:Un) (c:Cf) (m r:Int) (i:Nat) (x:Ins) (hx:AtX u c i x):Pure Tryz.prog 320 [.agg (unC u),.agg (cfC c),iD m,iD r,iD (i:Nat)] (.tup [.pt (doF u c m r (i:Nat) x),bD true]):=by
 obtain⟨rw,p,h1,h2,h3,h4⟩:=hx.pc
 obtain⟨q,rfl⟩: ∃q:Nat,p=(q:Int):=⟨p.toNat,by omega⟩
 rw[z'q]at h4
 have l1:=(z'g.1 h1).1
 have l2:=(z'g.1 h2).1
 have l4:=(z'g.1 h4).1
 have r1:(iRs c.pc)[i]?=some [iD (q:Nat)]:=by rw[x'7,h1];rfl
 have r2:(Zax u.code)[i]?=some [.sl false 7 (w'o rw)]:=by rw[Zb3,h2];rfl
 have r4:(w'o rw)[q]?=some [iD x.op,iD x.reg,iD x.loc,y'8 x.e,y'8 x.f,bD x.ne,iD x.to]:=by rw[ZcV,h4];rfl
 have e1:decide ((i:Int)<0)=false:=by simp
 have e2:decide ((i:Int)≥(c.pc.length:Int))=false:=by simp;omega
 refine Fun.of T [.tmp 10,.tmp 11] Tryz.func320 rfl Tryz.ntmps320 Tryz.results320 rfl (by kernel_rfl) ?_
 repeat' first|refine vb rfl rfl rfl rfl ?_|refine dr (id:=3) T 17 (by kernel_rfl) ?_|refine gn ?_|(apply VCg.step T rfl rfl);focus((try simp (disch:=omega) only[go_sem,Nat.reduceBEq,Nat.reduceAdd,Nat.reduceLeDiff,r1,r2,r4,z'I,x'r,x'W]);(first|exact rfl|refine⟨?_,rfl⟩;try omega))|refine vs T rfl fun K hK=>?_;(try simp (disch:=omega) only[go_sem,Nat.reduceBEq,Nat.reduceAdd,e1,e2,z'I]);(refine hK _ _ ?_;clear hK K)|refine st rfl ?_|refine sc rfl ?_|refine nl ?_|refine gs rfl rfl ?_|exact w'd T (z'a _) ⟨rfl,rfl⟩
 all_goals rfl
theorem Zro (u:Un) (c:Cf) (m r t:Int) (h:t<0∨t≥c.pc.length):Pure Tryz.prog 320 [.agg (unC u),.agg (cfC c),iD m,iD r,iD t] (.tup [.is (.pointer none),bD false]):=by
 refine Fun.of T [.tmp 10,.tmp 11] Tryz.func320 rfl Tryz.ntmps320 Tryz.results320 rfl (by kernel_rfl) ?_
 by_cases h1:t<0
 ·have e1:decide (t<0)=true:=by simpa using h1
  repeat' first|refine vb rfl rfl rfl rfl ?_|refine vs T rfl fun K hK=>?_;(try simp (disch:=omega) only[go_sem,Nat.reduceBEq,Nat.reduceAdd,e1]);(refine hK _ _ ?_;clear hK K)|refine st rfl ?_|refine sc rfl ?_|refine nl ?_|refine gs rfl rfl ?_|exact w'd T (z'a _) ⟨rfl,rfl⟩
  all_goals rfl
 ·have e1:decide (t<0)=false:=by simpa using h1
  have e2:decide (t≥(c.pc.length:Int))=true:=by simp;omega
  repeat' first|refine vb rfl rfl rfl rfl ?_|refine vs T rfl fun K hK=>?_;(try simp (disch:=omega) only[go_sem,Nat.reduceBEq,Nat.reduceAdd,e1,e2,z'I]);(refine hK _ _ ?_;clear hK K)|refine st rfl ?_|refine sc rfl ?_|refine nl ?_|refine gs rfl rfl ?_|exact w'd T (z'a _) ⟨rfl,rfl⟩
  all_goals rfl
def Zis (u:Un) (c:Cf) (i:Nat):Option Ins:=(u.code[i]?).bind fun rw=>(c.pc[i]?).bind fun p=>if 0≤p then rw[p.toNat]? else none
theorem AtX.ins {u:Un} {c:Cf} {i:Nat} {x:Ins} (h:AtX u c i x):Zis u c i=some x:=by
 obtain⟨rw,p,h1,h2,h3,h4⟩:=h.pc
 simp[Zis,h1,h2,h3,h4]
def enT (u:Un) (c:Cf) (m r t:Int):Bool:=match decide (0≤t),Zis u c t.toNat with
 |true,some x=>enB c m r t x (c.bufs.getD t.toNat []) (y'P u (c.regs.getD t.toNat []) x.e)
 |_,_=>false
structure Thr (u:Un) (c:Cf) (i:Nat) (x:Ins) (row:List Int) (b:List En):Prop where
 at_:AtX u c i x
 reg:c.regs[i]?=some row
 buf:c.bufs[i]?=some b
 e:x.e.length≤1000
 f:x.f.length≤1000
theorem Zj4 {u:Un} {c:Cf} {m r:Int} {i:Nat} {x:Ins} {row:List Int} {b:List En} (h:Thr u c i x row b):enT u c m r (i:Nat)=enB c m r (i:Nat) x b (y'P u row x.e):=by
 simp[enT,h.at_.ins,h.reg,h.buf,z'd]
theorem Zj5 {u:Un} {c:Cf} {m r t:Int} (h:t<0∨t≥c.pc.length):enT u c m r t=false:=by
 unfold enT
 rcases h with h|h
 ·rw[decide_eq_false (by omega)]
 ·have:Zis u c t.toNat=none:=by
   unfold Zis
   rw[z'L (show c.pc.length≤t.toNat by omega)]
   cases u.code[t.toNat]?<;>rfl
  rw[this]
  split<;>simp_all
theorem Znb (u:Un) (c:Cf) (m r t:Int) (h:t<0∨t≥c.pc.length):Pure Tryz.prog 319 [.agg (unC u),.agg (cfC c),iD m,iD r,iD t] (bD (enT u c m r t)):=by
 rw[Zj5 h]
 have c1:=Zro u c m r t h
 refine Fun.of T [.tmp 10] Tryz.func319 rfl Tryz.ntmps319 Tryz.results319 rfl (by kernel_rfl) ?_
 repeat' first|refine vb rfl rfl rfl rfl ?_|refine vs T rfl fun K hK=>?_;(try simp (disch:=omega) only[go_sem,Nat.reduceBEq,Nat.reduceAdd,Nat.reduceLeDiff]);(first|refine hK _ _ ?_;clear hK K|refine Op1.callp rfl rfl (c1) rfl ?_;refine hK _ _ ?_;clear hK K)|refine st rfl ?_|refine nl ?_|refine gs rfl rfl ?_|exact z'A T (z'a _) ⟨rfl,rfl⟩
theorem Zna (u:Un) (c:Cf) (hc:OkC c) (m r:Int) {i:Nat} {x:Ins} {row:List Int} {b:List En} (h:Thr u c i x row b):Pure Tryz.prog 319 [.agg (unC u),.agg (cfC c),iD m,iD r,iD (i:Nat)] (bD (enT u c m r (i:Nat))):=by
 rw[Zj4 h]
 have c1:=Zt6 u c m r i x h.at_
 have c2:=Zhj u c hc m r i x h.e row h.reg b h.buf
 refine Fun.of T [.tmp 10] Tryz.func319 rfl Tryz.ntmps319 Tryz.results319 rfl (by kernel_rfl) ?_
 repeat' first|refine vb rfl rfl rfl rfl ?_|refine vs T rfl fun K hK=>?_;(try simp (disch:=omega) only[go_sem,Nat.reduceBEq,Nat.reduceAdd,Nat.reduceLeDiff]);(first|refine hK _ _ ?_;clear hK K|refine Op1.callp rfl rfl (c1) rfl ?_;refine hK _ _ ?_;clear hK K|refine Op1.callp rfl rfl (c2) rfl ?_;refine hK _ _ ?_;clear hK K)|refine st rfl ?_|refine nl ?_|refine gs rfl rfl ?_|exact z'A T (z'a _) ⟨rfl,rfl⟩
abbrev doO (u:Un) (q:OC) (c:Cf) (m r t:Int) (x:Ins):List D:=doC u (.gs q.gp c.pc.length) (.gs q.gr c.regs.length) (.gs q.gm c.mem.length) (.gs q.gb c.bufs.length) m r t x
def dW (bd:Nat) (u:Un) (q:OC) (c:Cf) (m r t:Int) (x:Ins):Heap:=(bd,.cells 345 18 (doO u q c m r t x))::q.h c []
abbrev pD (bd:Nat):D:= .is (.pointer (some ⟨bd,0,none⟩))
theorem FzL.toC {H:Heap}: ∀{l' l:List D},FzL H l' l→FzC H l' l
 |[],_,_=>trivial
 |_::_,_,h=>by
  obtain⟨d,ds,rfl,q1,q2⟩:=h
  exact⟨d,ds,rfl,q1,FzL.toC q2⟩
theorem Zrq {bd:Nat} {u:Un} {q:OC} {c:Cf} {m r t:Int} {x:Ins} (h:q.ok c):Fz (dW bd u q c m r t x) (.pt (doF u c m r t x)) (pD bd):=by
 refine .inr ⟨bd,0,_,_,_,rfl,z'n ..,?_⟩
 have h1:=OC.fzL (H:=dW bd u q c m r t x) (X:=[]) h (fun x hx=>z'k _ hx)
 exact FzL.toC (FzL.append (l':=unC u) (l:=unC u) (FzL.refl _ _) (FzL.append h1 (FzL.refl _ [iD m,iD r,iD t,iD x.op,iD x.reg,iD x.loc,y'8 x.e,y'8 x.f,bD x.ne,iD x.to])))
theorem Zb5 {bd:Nat} {u:Un} {q:OC} {c:Cf} {m r t:Int} {x:Ins} (h:q.ok c) (d:D):FzL (dW bd u q c m r t x) [.pt (doF u c m r t x),d] [pD bd,d]:=z'4 (Zrq h) (z'4 (Fz.refl _ _) v'o)
theorem Zhg {bd:Nat} {u:Un} {q:OC} {c:Cf} {m r t:Int} {x:Ins} (h:q.ok c):FzL (dW bd u q c m r t x) [.pt (doF u c m r t x)] [pD bd]:=z'4 (Zrq h) v'o
theorem Zti {bd:Nat} {u:Un} {q:OC} {c:Cf} {m r t:Int} {x:Ins} (h:q.ok c) (d1 d2:D):FzL (dW bd u q c m r t x) [.agg (cfC c),d1,d2] [.agg (q.cs c),d1,d2]:=
 z'4 ⟨_,rfl,OC.fzL (X:=[]) h (fun x hx=>z'k _ hx)⟩ (FzL.refl _ _)
mutual
theorem Fz.sub {H H':Heap} (h: ∀y,y∈H→y∈H'): ∀{d' d:D},Fz H d' d→Fz H' d' d
 | .sl full esz rows,d,hd=>by
  rcases hd with h0|⟨h1,h2⟩
  ·exact .inl h0
  ·refine .inr ⟨h1,?_⟩
   rcases h2 with h2|h2|⟨b,o,n,cap,q1,q2,e,k,l,q3,q4⟩
   ·exact .inl h2
   ·exact .inr (.inl h2)
   ·exact .inr (.inr ⟨b,o,n,cap,q1,q2,e,k,l,h _ q3,FzR.sub h q4⟩)
 | .pt row,d,hd=>by
  rcases hd with h0|⟨b,o,e,k,l,q1,q2,q3⟩
  ·exact .inl h0
  ·exact .inr ⟨b,o,e,k,l,q1,h _ q2,FzC.sub h q3⟩
 | .agg l',d,hd=>by obtain⟨l,rfl,q⟩:=hd;exact⟨l,rfl,FzL.sub h q⟩
 | .tup l',d,hd=>by obtain⟨l,rfl,q⟩:=hd;exact⟨l,rfl,FzL.sub h q⟩
 | .ifc t x',d,hd=>by obtain⟨x,rfl,q⟩:=hd;exact⟨x,rfl,Fz.sub h q⟩
 | .is v,d,hd=>hd
 | .gs g n,d,hd=>hd
 | .os b o n cap,d,hd=>hd
 | .any,d,hd=>hd
theorem FzL.sub {H H':Heap} (h: ∀y,y∈H→y∈H'): ∀{l' l:List D},FzL H l' l→FzL H' l' l
 |[],l,q=>q
 |d'::ds',l,q=>by obtain⟨d,ds,rfl,q1,q2⟩:=q;exact⟨d,ds,rfl,Fz.sub h q1,FzL.sub h q2⟩
theorem FzC.sub {H H':Heap} (h: ∀y,y∈H→y∈H'): ∀{l' l:List D},FzC H l' l→FzC H' l' l
 |[],l,q=>trivial
 |d'::ds',l,q=>by obtain⟨d,ds,rfl,q1,q2⟩:=q;exact⟨d,ds,rfl,Fz.sub h q1,FzC.sub h q2⟩
theorem FzR.sub {H H':Heap} {esz:Nat} (h: ∀y,y∈H→y∈H'): ∀{rows:List (List D)} {l:List D},FzR H esz rows l→FzR H' esz rows l
 |[],l,q=>trivial
 |r::rs,l,q=>⟨q.1,FzC.sub h q.2.1,FzR.sub h q.2.2⟩
end
def setP (c:Cf) (i:Nat) (n:Int):Cf:={c with pc:=c.pc.set i n}
def w'w (c:Cf) (k:Nat) (n:Int):Cf:={c with mem:=c.mem.set k n}
def v'G (c:Cf) (i:Nat) (b:List En):Cf:={c with bufs:=c.bufs.set i b}
def ZdI (c:Cf) (i:Nat) (row:List Int):Cf:={c with regs:=c.regs.set i row}
theorem OC.okP {q:OC} {c:Cf} (h:q.ok c) (i:Nat) (n:Int):q.ok (setP c i n):=⟨by simpa[setP]using h.pc,h.gr,h.mem,h.bufs,h.rows,h.row⟩
theorem OC.okM {q:OC} {c:Cf} (h:q.ok c) (k:Nat) (n:Int):q.ok (w'w c k n):=⟨h.pc,h.gr,by simpa[w'w]using h.mem,h.bufs,h.rows,h.row⟩
theorem OC.okB {q:OC} {c:Cf} (h:q.ok c) (i:Nat) (b:List En):q.ok (v'G c i b):=⟨h.pc,h.gr,h.mem,by simpa[v'G]using h.bufs,h.rows,h.row⟩
theorem Ziq (bd:Nat) (u:Un) (q:OC) (c:Cf) (hq:q.ok c) (m r:Int) (i:Nat) (hi:i<c.pc.length) (x:Ins) (n:Int):Fun Tryz.prog 330 [pD bd,iD n] (dW bd u q c m r (i:Nat) x) false
  (fun d H'=> ∃q':OC,q'.ok (setP c i n)∧d= .tup []∧H'=dW bd u q' (setP c i n) m r (i:Nat) x):=by
 have hq2:=OC.okP hq i n
 obtain⟨gp,gr,gm,gb,rs⟩:=q
 rcases gp with _|⟨b,cap⟩
 ·have h0:c.pc.length=0:=hq.pc
  omega
 refine Fun.of T [] Tryz.func330 rfl Tryz.ntmps330 Tryz.results330 rfl (by kernel_rfl) ?_
 show VC _ _ _ ⟨_,(bd,.cells 345 18 (doC u (.gs (some (b,cap)) c.pc.length) (.gs gr c.regs.length) (.gs gm c.mem.length) (.gs gb c.bufs.length) m r (i:Nat) x))::(b,.cells 3 (cap*1) (c.pc.map iD))::_⟩ _
 refine VC.nodup fun hn=>?_
 have hne: ¬bd=b:=fun h=>by subst h;simp[Heap.blocks]at hn
 repeat' first|refine dr (id:=0) T 10 (by kernel_rfl) ?_|refine gn ?_|apply VCg.step T rfl rfl;focus((try simp (disch:=omega) only[go_sem,Nat.reduceBEq,z'K]);(exact rfl))|refine vs T rfl fun K hK=>?_;(try simp (disch:=omega) only[go_sem,Nat.reduceBEq,z'K]);(refine⟨?_,hK _ _ ?_⟩<;>clear hK K;focus(try omega))|refine nl ?_
 exact v'9 T rfl (z'w _) ⟨⟨some (b,cap),gr,gm,gb,rs⟩,hq2,rfl,by simp[dW,OC.h,x'j,setP,x'd]⟩
theorem ZeR (bd:Nat) (u:Un) (q:OC) (c:Cf) (hq:q.ok c) (m r t:Int) (x:Ins) (hx:0≤x.loc∧x.loc<c.mem.length) (n:Int):Fun Tryz.prog 335 [pD bd,iD n] (dW bd u q c m r t x) false
  (fun d H'=> ∃q':OC,q'.ok (w'w c x.loc.toNat n)∧d= .tup []∧H'=dW bd u q' (w'w c x.loc.toNat n) m r t x):=by
 have hq2:=OC.okM hq x.loc.toNat n
 obtain⟨gp,gr,gm,gb,rs⟩:=q
 rcases gm with _|⟨b,cap⟩
 ·have h0:c.mem.length=0:=hq.mem
  omega
 refine Fun.perm (Φ:=fun d H'=>d= .tup []∧H'=(bd,.cells 345 18 (doC u (.gs gp c.pc.length) (.gs gr c.regs.length) (.gs (some (b,cap)) c.mem.length) (.gs gb c.bufs.length) m r t x))::(b,.cells 3 cap ((c.mem.map iD).set x.loc.toNat (iD n)))::shp gp 3 1 (c.pc.map iD) (shp gr 29 1 (rgC rs) (shp gb 119 1 (c.bufs.map buf) (rgH rs [])))) ?_
  (fun d H' ⟨h1,h2⟩=>⟨dW bd u ⟨gp,gr,some (b,cap),gb,rs⟩ (w'w c x.loc.toNat n) m r t x,by
   rw[h2]
   exact y'6 fun a=>by simp only[dW,doO,OC.h,x'j,w'w,x'd,y't,z'K,x'q,w'i,y'I,y'N,y'V];omega,⟨_,hq2,h1,rfl⟩⟩)
 refine Fun.of T [] Tryz.func335 rfl Tryz.ntmps335 Tryz.results335 rfl (by kernel_rfl) ?_
 refine VC.weak (Weak.perm (H':=(bd,.cells 345 18 (doC u (.gs gp c.pc.length) (.gs gr c.regs.length) (.gs (some (b,cap)) c.mem.length) (.gs gb c.bufs.length) m r t x))::(b,.cells 3 (cap*1) (c.mem.map iD))::shp gp 3 1 (c.pc.map iD) (shp gr 29 1 (rgC rs) (shp gb 119 1 (c.bufs.map buf) (rgH rs []))))
  (y'6 fun a=>by simp only[dW,doO,OC.h,x'j,x'q,w'i,y'I,y'N,y'V];omega)) ?_
 refine VC.nodup fun hn=>?_
 have hne: ¬bd=b:=fun h=>by subst h;simp[Heap.blocks]at hn
 repeat' first|refine dr (id:=0) T 11 (by kernel_rfl) ?_|refine gn ?_|apply VCg.step T rfl rfl;focus((try simp (disch:=omega) only[go_sem,Nat.reduceBEq,Nat.reduceAdd,z'K]);(exact rfl))|refine vs T rfl fun K hK=>?_;(try simp (disch:=omega) only[go_sem,Nat.reduceBEq,z'K]);(refine⟨?_,hK _ _ ?_⟩<;>clear hK K;focus(try omega))|refine nl ?_
 exact v'9 T rfl (z'w _) ⟨rfl,rfl⟩
theorem Zq6 {rs:OR} {l:List (List Int)} (h:rs.map (·.2)=l) {i:Nat} {row:List Int} (hr:l[i]?=some row): ∃pre post g,rs=pre++(g,row)::post∧pre.length=i∧l.set i=fun r'=>(pre++(g,r')::post).map (·.2):=by
 subst h
 have hi:=(z'g.1 hr).1
 rw[z'i]at hi
 rw[z'J]at hr
 obtain⟨p,hp⟩: ∃p,rs[i]?=some p:=⟨_,z'b hi⟩
 rw[hp]at hr
 have hp2:p.2=row:=by simpa using hr
 have e:rs=rs.take i++p::rs.drop (i+1):=by
  have h1:rs.drop i=p::rs.drop (i+1):=by rw[y'H hi];congr 1;exact y'n ((z'b hi).symm.trans hp)
  rw[←h1,x'p]
 have hl:(rs.take i).length=i:=by rw[z'y];omega
 refine⟨rs.take i,rs.drop (i+1),p.1,by rw[←hp2];exact e,hl,?_⟩
 funext r'
 conv=>lhs;rw[e]
 have hl2:(List.map (fun x:G×List Int=>x.2) (rs.take i)).length=i:=by rw[z'i,hl]
 rw[z'v,z'v,List.set_append,if_neg (by omega),hl2,Nat.sub_self]
 rfl
theorem ZiG: ∀(pre:OR) (p:G×List Int) (post:OR) (X:Heap),rgH (pre++p::post) X=rgH pre (shp p.1 3 1 (p.2.map iD) (rgH post X))
 |[],p,post,X=>rfl
 |q::pre,p,post,X=>by rw[z'N,rgH,rgH,ZiG pre]
theorem ZfB (bd:Nat) (u:Un) (q:OC) (c:Cf) (hq:q.ok c) (m r:Int) (i:Nat) (x:Ins) (row:List Int) (hr:c.regs[i]?=some row) (hx:0≤x.reg∧x.reg<row.length) (n:Int):
  Fun Tryz.prog 334 [pD bd,iD n] (dW bd u q c m r (i:Nat) x) false
  (fun d H'=> ∃q':OC,q'.ok (ZdI c i (row.set x.reg.toNat n))∧d= .tup []∧H'=dW bd u q' (ZdI c i (row.set x.reg.toNat n)) m r (i:Nat) x):=by
 have hil:=(z'g.1 hr).1
 obtain⟨gp,gr,gm,gb,rs⟩:=q
 rcases gr with _|⟨b,cap⟩
 ·have h0:c.regs.length=0:=hq.gr
  omega
 obtain⟨pre,post,gi,rfl,hpl,hset⟩:=Zq6 hq.rows hr
 have hgi:gOk gi row.length:=hq.row (gi,row) (by simp)
 rcases gi with _|⟨bi,capi⟩
 ·have h0:row.length=0:=hgi
  omega
 have hrc:(rgC (pre++(some (bi,capi),row)::post))[i]?=some (.gs (some (bi,capi)) row.length):=by
  simp[rgC, ←hpl]
 have hrc2:rgC (pre++(some (bi,capi),row.set x.reg.toNat n)::post)=rgC (pre++(some (bi,capi),row)::post):=by simp[rgC]
 have hlr:(pre++(some (bi,capi),row)::post).length=c.regs.length:=by rw[←hq.rows,z'i]
 have hq2:(OC.mk gp (some (b,cap)) gm gb (pre++(some (bi,capi),row.set x.reg.toNat n)::post)).ok (ZdI c i (row.set x.reg.toNat n)):=by
  refine⟨hq.pc,by simpa[ZdI]using hq.gr,hq.mem,hq.bufs,?_,?_⟩
  ·exact(congrFun hset _).symm
  ·intro p hp
   rcases z'W.1 hp with hp|hp
   ·exact hq.row p (y'v _ hp)
   ·rcases z't.1 hp with rfl|hp
    ·simpa using hgi
    ·exact hq.row p (y'9 _ (z'k _ hp))
 refine Fun.perm (Φ:=fun d H'=>d= .tup []∧H'=(bd,.cells 345 18 (doC u (.gs gp c.pc.length) (.gs (some (b,cap)) c.regs.length) (.gs gm c.mem.length) (.gs gb c.bufs.length) m r (i:Nat) x))::(b,.cells 29 cap (rgC (pre++(some (bi,capi),row)::post)))::(bi,.cells 3 capi ((row.map iD).set x.reg.toNat (iD n)))::shp gp 3 1 (c.pc.map iD) (shp gm 3 1 (c.mem.map iD) (shp gb 119 1 (c.bufs.map buf) (rgH pre (rgH post []))))) ?_
  (fun d H' ⟨h1,h2⟩=>⟨dW bd u ⟨gp,some (b,cap),gm,gb,pre++(some (bi,capi),row.set x.reg.toNat n)::post⟩ (ZdI c i (row.set x.reg.toNat n)) m r (i:Nat) x,by
   rw[h2]
   exact y'6 fun a=>by simp only[dW,doO,OC.h,hrc2,ZiG,x'j,ZdI,x'd,y't,z'K,x'q,w'i,y'I,y'N,y'V];omega,⟨_,hq2,h1,rfl⟩⟩)
 refine Fun.of T [] Tryz.func334 rfl Tryz.ntmps334 Tryz.results334 rfl (by kernel_rfl) ?_
 refine VC.weak (Weak.perm (H':=(bd,.cells 345 18 (doC u (.gs gp c.pc.length) (.gs (some (b,cap)) c.regs.length) (.gs gm c.mem.length) (.gs gb c.bufs.length) m r (i:Nat) x))::(b,.cells 29 (cap*1) (rgC (pre++(some (bi,capi),row)::post)))::(bi,.cells 3 (capi*1) (row.map iD))::shp gp 3 1 (c.pc.map iD) (shp gm 3 1 (c.mem.map iD) (shp gb 119 1 (c.bufs.map buf) (rgH pre (rgH post [])))))
  (y'6 fun a=>by simp only[dW,doO,OC.h,ZiG,x'j,x'q,w'i,y'I,y'N,y'V];omega)) ?_
 refine VC.nodup fun hn=>?_
 have hne: ¬bd=b:=fun h=>by subst h;simp[Heap.blocks]at hn
 have hne2: ¬bd=bi:=fun h=>by subst h;simp[Heap.blocks]at hn
 have hne3: ¬b=bi:=fun h=>by subst h;simp[Heap.blocks]at hn
 repeat' first|refine dr (id:=0) T 17 (by kernel_rfl) ?_|refine gn ?_|apply VCg.step T rfl rfl;focus((try simp (disch:=omega) only[go_sem,Nat.reduceBEq,Nat.reduceAdd,z'K,hrc]);(first|exact rfl|refine⟨?_,rfl⟩;try omega))|refine vs T rfl fun K hK=>?_;(try simp (disch:=omega) only[go_sem,Nat.reduceBEq,z'K]);(refine⟨?_,hK _ _ ?_⟩<;>clear hK K;focus(try omega))|refine nl ?_
 exact v'9 T rfl (z'w _) ⟨rfl,rfl⟩
theorem Zs2 (bd:Nat) (u:Un) (q:OC) (c:Cf) (hc:OkC c) (hq:q.ok c) (m r:Int) (hm:(m == 1)=false) (i:Nat) (x:Ins) (hx:x.e.length≤1000) (row:List Int) (hr:c.regs[i]?=some row) (b0:List En) (hb:c.bufs[i]?=some b0):
  Fun Tryz.prog 324 [pD bd] (dW bd u q c m r (i:Nat) x) false
  (fun d H'=> ∃q':OC,q'.ok (v'G c i (w'M m (x.loc,y'P u row x.e) b0))∧d= .tup []∧H'=dW bd u q' (v'G c i (w'M m (x.loc,y'P u row x.e) b0)) m r (i:Nat) x):=by
 have hil:=(z'g.1 hb).1
 have kb:=hc.buf b0 (z'l hb)
 have kr:=hc.row row (z'l hr)
 have hq2:=OC.okB hq i (w'M m (x.loc,y'P u row x.e) b0)
 have c1:=w'6 u c m r i x row hr x.e hx kr
 have c2:=Zsx b0 (by omega) m x.loc (y'P u row x.e)
 have hfz:=Zb5 (bd:=bd) (u:=u) (m:=m) (r:=r) (t:=(i:Nat)) (x:=x) hq (y'8 x.e)
 have hbm:(c.bufs.map buf)[i]?=some (buf b0):=by simp[hb]
 obtain⟨gp,gr,gm,gb,rs⟩:=q
 rcases gb with _|⟨b,cap⟩
 ·have h0:c.bufs.length=0:=hq.bufs
  omega
 refine Fun.perm (Φ:=fun d H'=>d= .tup []∧H'=(bd,.cells 345 18 (doC u (.gs gp c.pc.length) (.gs gr c.regs.length) (.gs gm c.mem.length) (.gs (some (b,cap)) c.bufs.length) m r (i:Nat) x))::(b,.cells 119 cap ((c.bufs.map buf).set i (buf (w'M m (x.loc,y'P u row x.e) b0))))::shp gp 3 1 (c.pc.map iD) (shp gr 29 1 (rgC rs) (shp gm 3 1 (c.mem.map iD) (rgH rs [])))) ?_
  (fun d H' ⟨h1,h2⟩=>⟨dW bd u ⟨gp,gr,gm,some (b,cap),rs⟩ (v'G c i (w'M m (x.loc,y'P u row x.e) b0)) m r (i:Nat) x,by
   rw[h2]
   exact y'6 fun a=>by simp only[dW,doO,OC.h,x'j,v'G,x'd,y't,z'K,x'q,w'i,y'I,y'N,y'V];omega,⟨_,hq2,h1,rfl⟩⟩)
 have hpm:(dW bd u ⟨gp,gr,gm,some (b,cap),rs⟩ c m r (i:Nat) x).Perm ((bd,.cells 345 18 (doC u (.gs gp c.pc.length) (.gs gr c.regs.length) (.gs gm c.mem.length) (.gs (some (b,cap)) c.bufs.length) m r (i:Nat) x))::(b,.cells 119 (cap*1) (c.bufs.map buf))::shp gp 3 1 (c.pc.map iD) (shp gr 29 1 (rgC rs) (shp gm 3 1 (c.mem.map iD) (rgH rs [])))):=
  y'6 fun a=>by simp only[dW,doO,OC.h,x'j,x'q,w'i,y'I,y'N,y'V];omega
 have hfz2:FzL ((bd,.cells 345 18 (doC u (.gs gp c.pc.length) (.gs gr c.regs.length) (.gs gm c.mem.length) (.gs (some (b,cap)) c.bufs.length) m r (i:Nat) x))::(b,.cells 119 cap (c.bufs.map buf))::shp gp 3 1 (c.pc.map iD) (shp gr 29 1 (rgC rs) (shp gm 3 1 (c.mem.map iD) (rgH rs []))))
   [.pt (doF u c m r (i:Nat) x),y'8 x.e] [pD bd,y'8 x.e]:=by
  rw[z'K]at hpm
  exact FzL.sub (fun y hy=>hpm.mem_iff.1 hy) hfz
 refine Fun.of T [] Tryz.func324 rfl Tryz.ntmps324 Tryz.results324 rfl (by kernel_rfl) ?_
 refine VC.weak (Weak.perm hpm) ?_
 refine VC.nodup fun hn=>?_
 have hne: ¬bd=b:=fun h=>by subst h;simp[Heap.blocks]at hn
 simp only[z'K]
 repeat' first|refine dr (id:=3) T 32 (by kernel_rfl) ?_|refine gn ?_|apply VCg.step T rfl rfl;focus((try simp (disch:=omega) only[go_sem,Nat.reduceBEq,Nat.reduceAdd,z'K,hbm]);(first|exact rfl|refine⟨?_,rfl⟩;try omega|refine Op1.callp rfl rfl (c2) rfl ?_;exact⟨rfl,rfl⟩))|refine vs T rfl fun K hK=>?_;(try simp (disch:=omega) only[go_sem,Nat.reduceBEq,Nat.reduceAdd,z'K,hm]);(first|refine hK _ _ ?_;clear hK K|refine⟨?_,hK _ _ ?_⟩<;>clear hK K;focus(try omega)|refine Op1.lend rfl rfl (c1) (hfz2) (.inr rfl) ?_;refine hK _ _ ?_;clear hK K)|refine st rfl ?_|refine sc rfl ?_|refine nl ?_
 exact v'9 T rfl (z'w _) ⟨rfl,rfl⟩
end Go.Proofs.YthlkpnjjkgmlkaaGreat
