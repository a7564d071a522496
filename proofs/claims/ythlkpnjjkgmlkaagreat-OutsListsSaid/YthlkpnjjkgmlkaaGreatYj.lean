/- What each instruction does to a configuration of one's own. No condition. -/
import Derived.Test.YthlkpnjjkgmlkaaGreatYi
namespace Go.Proofs.YthlkpnjjkgmlkaaGreat
set_option maxHeartbeats 16000000
set_option linter.unusedSimpArgs false
set_option linter.unusedVariables false
set_option maxRecDepth 20000
open Go Go.Proofs Go.Vc
attribute [local irreducible] x'c VCg VCw VCx
def x'H (c:Cf) (x:Ins):Int:=c.mem.getD x.loc.toNat 0
theorem ZkW (u:Un) (c:Cf) (m r t:Int) (x:Ins) (hx:0≤x.loc∧x.loc<c.mem.length):Pure Tryz.prog 337 [.pt (doF u c m r t x)] (iD (x'H c x)):=by
 obtain⟨v,hv⟩: ∃v,c.mem[x.loc.toNat]?=some v:=⟨_,z'b (by omega)⟩
 have rv:(iRs c.mem)[x.loc.toNat]?=some [iD v]:=by rw[x'7,hv];rfl
 have hM:x'H c x=v:=by simp[x'H,z'd,hv]
 rw[hM]
 refine Fun.of T [.tmp 2] Tryz.func337 rfl Tryz.ntmps337 Tryz.results337 rfl (by kernel_rfl) ?_
 repeat' first|refine dr (id:=1) T 10 (by kernel_rfl) ?_|refine gn ?_|apply VCg.step T rfl rfl;focus((try simp (disch:=omega) only[go_sem,Nat.reduceBEq]);(exact rfl))|refine vs T rfl fun K hK=>?_;(try simp (disch:=omega) only[go_sem,Nat.reduceBEq,rv,z'I]);(first|refine hK _ _ ?_;clear hK K|refine⟨?_,hK _ _ ?_⟩<;>clear hK K;focus(try omega))|refine st rfl ?_|refine nl ?_|exact z'A T (z'a _) ⟨rfl,rfl⟩
structure Fit (u:Un) (c:Cf) (i:Nat) (x:Ins) (row:List Int) (b:List En):Prop where
 okc:OkC c
 pc:i<c.pc.length
 reg:c.regs[i]?=some row
 buf:c.bufs[i]?=some b
 e:x.e.length≤1000
 f:x.f.length≤1000
 r:(x.op=2∨x.op=3∨x.op=5∨x.op=6∨x.op=7)→0≤x.reg∧x.reg<row.length
 l:(x.op=4∨x.op=5∨x.op=6∨x.op=7)→0≤x.loc∧x.loc<c.mem.length
 m: ∀n,n∈c.mem→ -1000000≤n∧n≤1000000
 v: -1000000≤y'P u row x.e∧y'P u row x.e≤1000000
 md:u.md≠0
theorem Zsk {u:Un} {c:Cf} {i:Nat} {x:Ins} {row:List Int} {b:List En} (h:Fit u c i x row b): -1000000≤x'H c x∧x'H c x≤1000000:=by
 unfold x'H
 rw[z'd]
 cases hv:c.mem[x.loc.toNat]? with
 |none=>simp
 |some v=>exact h.m v (z'l hv)
def w'D (c:Cf) (i:Nat) (row:List Int) (x:Ins) (n:Int):Cf:=ZdI c i (row.set x.reg.toNat n)
def w'4 (u:Un) (c:Cf) (m:Int) (i:Nat) (x:Ins) (row:List Int) (b:List En):Cf:=
 if x.op=20 then setP c i x.to else if x.op=21 then(if y'P u row x.e=0 then setP c i x.to else c)else if x.op=2 then w'D c i row x (y'P u row x.e)else if x.op=3 then w'D c i row x (w'g c (i:Nat) x.loc)
 else if x.op=4 then(if m=1 then w'w c x.loc.toNat (y'P u row x.e)else v'G c i (w'M m (x.loc,y'P u row x.e) b))
 else if x.op=5 then(if x'H c x=y'P u row x.e then w'w (w'D c i row x (x'H c x)) x.loc.toNat (y'P u row x.f)else w'D c i row x (x'H c x))
 else if x.op=6 then w'w (w'D c i row x (x'H c x)) x.loc.toNat ((x'H c x+y'P u row x.e).tmod u.md)
 else if x.op=7 then w'w (w'D c i row x (x'H c x)) x.loc.toNat (y'P u row x.e)
 else c
abbrev Za9 (f:Nat) (bd:Nat) (u:Un) (q:OC) (c:Cf) (m r:Int) (i:Nat) (x:Ins) (c2:Cf):Prop:=
 Fun Tryz.prog f [pD bd] (dW bd u q c m r (i:Nat) x) false (fun d H'=> ∃q':OC,q'.ok c2∧d= .tup []∧H'=dW bd u q' c2 m r (i:Nat) x)
section
variable (bd : Nat) (u : Un) (q : OC) (c : Cf) (hq : q.ok c) (m r : Int) (i : Nat) (x : Ins) (row : List Int) (b : List En) (h : Fit u c i x row b)
include hq h
theorem Znk (ho:x.op=2):Za9 322 bd u q c m r i x (w'D c i row x (y'P u row x.e)):=by
 have c1:=w'6 u c m r i x row h.reg x.e h.e (h.okc.row row (z'l h.reg))
 have c2:=ZfB bd u q c hq m r i x row h.reg (h.r (.inl ho)) (y'P u row x.e)
 have hfz:=Zb5 (bd:=bd) (u:=u) (m:=m) (r:=r) (t:=(i:Nat)) (x:=x) hq (y'8 x.e)
 refine Fun.of T [] Tryz.func322 rfl Tryz.ntmps322 Tryz.results322 rfl (by kernel_rfl) ?_
 show VC _ _ _ ⟨_,(bd,.cells 345 18 (doO u q c m r (i:Nat) x))::q.h c []⟩ _
 repeat' first|refine vs T rfl fun K hK=>?_;(try simp (disch:=omega) only[go_sem,Nat.reduceBEq,Nat.reduceAdd]);(first|refine hK _ _ ?_;clear hK K|refine Op1.lend rfl rfl (c1) (hfz) (.inr rfl) ?_;refine hK _ _ ?_;clear hK K|refine Op1.cally (Hr:=[]) rfl rfl (c2) rfl (by rw[z's];exact z'9 _) (fun q hq=>?_);refine hK _ _ ?_;clear hK K)|refine st rfl ?_|refine nl ?_
 exact v'9 T rfl (z'w _) ⟨q,hq,rfl,by first|exact z's _|rfl⟩
theorem Zsj (ho:x.op=3):Za9 323 bd u q c m r i x (w'D c i row x (w'g c (i:Nat) x.loc)):=by
 have c1:=Zlk c h.okc.buf (i:Nat) x.loc
 have c2:=ZfB bd u q c hq m r i x row h.reg (h.r (.inr (.inl ho))) (w'g c (i:Nat) x.loc)
 have hfz:=Zti (bd:=bd) (u:=u) (m:=m) (r:=r) (t:=(i:Nat)) (x:=x) hq (iD (i:Nat)) (iD x.loc)
 refine Fun.of T [] Tryz.func323 rfl Tryz.ntmps323 Tryz.results323 rfl (by kernel_rfl) ?_
 show VC _ _ _ ⟨_,(bd,.cells 345 18 (doO u q c m r (i:Nat) x))::q.h c []⟩ _
 repeat' first|refine dr (id:=0) T 15 (by kernel_rfl) ?_|refine gn ?_|apply VCg.step T rfl rfl;focus((try simp (disch:=omega) only[go_sem,Nat.reduceBEq,Nat.reduceAdd,Nat.reduceLeDiff]);(first|exact rfl|refine Op1.lend rfl rfl (c1) (hfz) (.inr rfl) ?_;exact⟨rfl,rfl⟩))|refine vs T rfl fun K hK=>?_;(try simp (disch:=omega) only[go_sem]);(refine Op1.cally (Hr:=[]) rfl rfl (c2) rfl (by rw[z's];exact z'9 _) (fun q hq=>?_);refine hK _ _ ?_;clear hK K)|refine nl ?_
 exact v'9 T rfl (z'w _) ⟨q,hq,rfl,by first|exact z's _|rfl⟩
theorem Zrm (ho:x.op=4) (hm:(m == 1)=true):Za9 324 bd u q c m r i x (w'w c x.loc.toNat (y'P u row x.e)):=by
 have c1:=w'6 u c m r i x row h.reg x.e h.e (h.okc.row row (z'l h.reg))
 have c2:=ZeR bd u q c hq m r (i:Nat) x (h.l (.inl ho)) (y'P u row x.e)
 have hfz:=Zb5 (bd:=bd) (u:=u) (m:=m) (r:=r) (t:=(i:Nat)) (x:=x) hq (y'8 x.e)
 refine Fun.of T [] Tryz.func324 rfl Tryz.ntmps324 Tryz.results324 rfl (by kernel_rfl) ?_
 show VC _ _ _ ⟨_,(bd,.cells 345 18 (doO u q c m r (i:Nat) x))::q.h c []⟩ _
 repeat' first|refine vs T rfl fun K hK=>?_;(try simp (disch:=omega) only[go_sem,Nat.reduceBEq,Nat.reduceAdd,hm]);(first|refine hK _ _ ?_;clear hK K|refine Op1.lend rfl rfl (c1) (hfz) (.inr rfl) ?_;refine hK _ _ ?_;clear hK K|refine Op1.cally (Hr:=[]) rfl rfl (c2) rfl (by rw[z's];exact z'9 _) (fun q hq=>?_);refine hK _ _ ?_;clear hK K)|refine st rfl ?_|refine sc rfl ?_|refine nl ?_
 exact v'9 T rfl (z'w _) ⟨q,hq,rfl,by first|exact z's _|rfl⟩
theorem Zsg:Za9 325 bd u q c m r i x (setP c i x.to):=by
 have c2:=Ziq bd u q c hq m r i h.pc x x.to
 refine Fun.of T [] Tryz.func325 rfl Tryz.ntmps325 Tryz.results325 rfl (by kernel_rfl) ?_
 show VC _ _ _ ⟨_,(bd,.cells 345 18 (doO u q c m r (i:Nat) x))::q.h c []⟩ _
 repeat' first|refine vs T rfl fun K hK=>?_;(try simp (disch:=omega) only[go_sem,Nat.reduceBEq,Nat.reduceAdd]);(first|refine hK _ _ ?_;clear hK K|refine Op1.cally (Hr:=[]) rfl rfl (c2) rfl (by rw[z's];exact z'9 _) (fun q hq=>?_);refine hK _ _ ?_;clear hK K)|refine st rfl ?_|refine nl ?_
 exact v'9 T rfl (z'w _) ⟨q,hq,rfl,by first|exact z's _|rfl⟩
theorem Zol:Za9 326 bd u q c m r i x (if y'P u row x.e=0 then setP c i x.to else c):=by
 have c1:=w'6 u c m r i x row h.reg x.e h.e (h.okc.row row (z'l h.reg))
 have c2:=Ziq bd u q c hq m r i h.pc x x.to
 have hfz:=Zb5 (bd:=bd) (u:=u) (m:=m) (r:=r) (t:=(i:Nat)) (x:=x) hq (y'8 x.e)
 refine Fun.of T [] Tryz.func326 rfl Tryz.ntmps326 Tryz.results326 rfl (by kernel_rfl) ?_
 show VC _ _ _ ⟨_,(bd,.cells 345 18 (doO u q c m r (i:Nat) x))::q.h c []⟩ _
 by_cases h0:y'P u row x.e=0
 ·have e0:(y'P u row x.e == 0)=true:=by simpa using h0
  rw[if_pos h0]
  repeat' first|refine vs T rfl fun K hK=>?_;(try simp (disch:=omega) only[go_sem,Nat.reduceBEq,Nat.reduceAdd,e0]);(first|refine hK _ _ ?_;clear hK K|refine Op1.lend rfl rfl (c1) (hfz) (.inr rfl) ?_;refine hK _ _ ?_;clear hK K|refine Op1.cally (Hr:=[]) rfl rfl (c2) rfl (by rw[z's];exact z'9 _) (fun q hq=>?_);refine hK _ _ ?_;clear hK K)|refine st rfl ?_|refine sc rfl ?_|refine nl ?_
  exact v'9 T rfl (z'w _) ⟨q,hq,rfl,by first|exact z's _|rfl⟩
 ·have e0:(y'P u row x.e == 0)=false:=by simpa using h0
  rw[if_neg h0]
  repeat' first|refine vs T rfl fun K hK=>?_;(try simp (disch:=omega) only[go_sem,Nat.reduceBEq,Nat.reduceAdd,e0]);(first|refine hK _ _ ?_;clear hK K|refine Op1.lend rfl rfl (c1) (hfz) (.inr rfl) ?_;refine hK _ _ ?_;clear hK K)|refine st rfl ?_|refine sc rfl ?_|refine nl ?_
  exact v'9 T rfl (z'w _) ⟨q,hq,rfl,rfl⟩
theorem ZlU (ho:x.op=7):Za9 329 bd u q c m r i x (w'w (w'D c i row x (x'H c x)) x.loc.toNat (y'P u row x.e)):=by
 have c1:=w'6 u c m r i x row h.reg x.e h.e (h.okc.row row (z'l h.reg))
 have c0:=ZkW u c m r (i:Nat) x (h.l (.inr (.inr (.inr ho))))
 have c2:=ZfB bd u q c hq m r i x row h.reg (h.r (.inr (.inr (.inr (.inr ho))))) (x'H c x)
 have c3:=fun(q2:OC) (h2:q2.ok (w'D c i row x (x'H c x)))=>ZeR bd u q2 (w'D c i row x (x'H c x)) h2 m r (i:Nat) x (h.l (.inr (.inr (.inr ho)))) (y'P u row x.e)
 have hfz:=Zb5 (bd:=bd) (u:=u) (m:=m) (r:=r) (t:=(i:Nat)) (x:=x) hq (y'8 x.e)
 have hfz0:=Zhg (bd:=bd) (u:=u) (m:=m) (r:=r) (t:=(i:Nat)) (x:=x) hq
 refine Fun.of T [] Tryz.func329 rfl Tryz.ntmps329 Tryz.results329 rfl (by kernel_rfl) ?_
 show VC _ _ _ ⟨_,(bd,.cells 345 18 (doO u q c m r (i:Nat) x))::q.h c []⟩ _
 repeat' first|refine dr (id:=0) T 8 (by kernel_rfl) ?_|refine gn ?_|apply VCg.step T rfl rfl;focus((try simp (disch:=omega) only[go_sem,Nat.reduceBEq,Nat.reduceAdd]);(first|exact rfl|refine Op1.lend rfl rfl (c0) (hfz0) (.inr rfl) ?_;exact⟨rfl,rfl⟩))|refine vs T rfl fun K hK=>?_;(try simp (disch:=omega) only[go_sem,Nat.reduceBEq]);(first|refine hK _ _ ?_;clear hK K|refine Op1.lend rfl rfl (c1) (hfz) (.inr rfl) ?_;refine hK _ _ ?_;clear hK K|refine Op1.cally (Hr:=[]) rfl rfl (c2) rfl (by rw[z's];exact z'9 _) (fun q hq=>?_);refine hK _ _ ?_;clear hK K|refine Op1.cally (Hr:=[]) rfl rfl (c3 q hq) rfl (by rw[z's];exact z'9 _) (fun q hq=>?_);refine hK _ _ ?_;clear hK K)|refine st rfl ?_|refine nl ?_
 exact v'9 T rfl (z'w _) ⟨q,hq,rfl,by first|exact z's _|rfl⟩
theorem Zta (ho:x.op=6):Za9 328 bd u q c m r i x (w'w (w'D c i row x (x'H c x)) x.loc.toNat ((x'H c x+y'P u row x.e).tmod u.md)):=by
 have c1:=w'6 u c m r i x row h.reg x.e h.e (h.okc.row row (z'l h.reg))
 have c0:=ZkW u c m r (i:Nat) x (h.l (.inr (.inr (.inl ho))))
 have c2:=ZfB bd u q c hq m r i x row h.reg (h.r (.inr (.inr (.inr (.inl ho))))) (x'H c x)
 have c3:=fun(q2:OC) (h2:q2.ok (w'D c i row x (x'H c x)))=>ZeR bd u q2 (w'D c i row x (x'H c x)) h2 m r (i:Nat) x (h.l (.inr (.inr (.inl ho)))) ((x'H c x+y'P u row x.e).tmod u.md)
 have hfz:=Zb5 (bd:=bd) (u:=u) (m:=m) (r:=r) (t:=(i:Nat)) (x:=x) hq (y'8 x.e)
 have hfz0:=Zhg (bd:=bd) (u:=u) (m:=m) (r:=r) (t:=(i:Nat)) (x:=x) hq
 have hb:=Zsk h
 have hv:=h.v
 have hw:IntKind.i64.wrap (x'H c x+y'P u row x.e)=x'H c x+y'P u row x.e:=by rw[w64 (by omega)]
 have hmd:=h.md
 refine Fun.of T [] Tryz.func328 rfl Tryz.ntmps328 Tryz.results328 rfl (by kernel_rfl) ?_
 show VC _ _ _ ⟨_,(bd,.cells 345 18 (doO u q c m r (i:Nat) x))::q.h c []⟩ _
 repeat' first|refine dr (id:=0) T 8 (by kernel_rfl) ?_|refine gn ?_|apply VCg.step T rfl rfl;focus((try simp (disch:=omega) only[go_sem,Nat.reduceBEq,Nat.reduceAdd]);(first|exact rfl|refine Op1.lend rfl rfl (c0) (hfz0) (.inr rfl) ?_;exact⟨rfl,rfl⟩))|refine vs T rfl fun K hK=>?_;(try simp (disch:=omega) only[go_sem,Nat.reduceBEq,dW,hw,hmd,ne_eq,not_false_eq_true]);(first|refine hK _ _ ?_;clear hK K|refine Op1.lend rfl rfl (c1) (hfz) (.inr rfl) ?_;refine hK _ _ ?_;clear hK K|refine Op1.cally (Hr:=[]) rfl rfl (c2) rfl (by rw[z's];exact z'9 _) (fun q hq=>?_);refine hK _ _ ?_;clear hK K|refine Op1.cally (Hr:=[]) rfl rfl (c3 q hq) rfl (by rw[z's];exact z'9 _) (fun q hq=>?_);refine hK _ _ ?_;clear hK K)|refine st rfl ?_|refine nl ?_
 exact v'9 T rfl (z'w _) ⟨q,hq,rfl,by first|exact z's _|rfl⟩
theorem ZsS (ho:x.op=5):Za9 327 bd u q c m r i x (if x'H c x=y'P u row x.e then w'w (w'D c i row x (x'H c x)) x.loc.toNat (y'P u row x.f)else w'D c i row x (x'H c x)):=by
 have c1:=w'6 u c m r i x row h.reg x.e h.e (h.okc.row row (z'l h.reg))
 have c1f:=w'6 u c m r i x row h.reg x.f h.f (h.okc.row row (z'l h.reg))
 have c0:=ZkW u c m r (i:Nat) x (h.l (.inr (.inl ho)))
 have c2:=ZfB bd u q c hq m r i x row h.reg (h.r (.inr (.inr (.inl ho)))) (x'H c x)
 have c3:=fun(q2:OC) (h2:q2.ok (w'D c i row x (x'H c x)))=>ZeR bd u q2 (w'D c i row x (x'H c x)) h2 m r (i:Nat) x (h.l (.inr (.inl ho))) (y'P u row x.f)
 have hfz:=Zb5 (bd:=bd) (u:=u) (m:=m) (r:=r) (t:=(i:Nat)) (x:=x) hq (y'8 x.e)
 have hfzf:=Zb5 (bd:=bd) (u:=u) (m:=m) (r:=r) (t:=(i:Nat)) (x:=x) hq (y'8 x.f)
 have hfz0:=Zhg (bd:=bd) (u:=u) (m:=m) (r:=r) (t:=(i:Nat)) (x:=x) hq
 refine Fun.of T [] Tryz.func327 rfl Tryz.ntmps327 Tryz.results327 rfl (by kernel_rfl) ?_
 show VC _ _ _ ⟨_,(bd,.cells 345 18 (doO u q c m r (i:Nat) x))::q.h c []⟩ _
 by_cases h0:x'H c x=y'P u row x.e
 ·have e0:(x'H c x == y'P u row x.e)=true:=by simpa using h0
  rw[if_pos h0]
  repeat' first|refine dr (id:=0) T 15 (by kernel_rfl) ?_|refine gn ?_|apply VCg.step T rfl rfl;focus((try simp (disch:=omega) only[go_sem,Nat.reduceBEq,Nat.reduceAdd]);(first|exact rfl|refine Op1.lend rfl rfl (c0) (hfz0) (.inr rfl) ?_;exact⟨rfl,rfl⟩|refine Op1.lend rfl rfl (c1) (hfz) (.inr rfl) ?_;exact⟨rfl,rfl⟩))|refine vs T rfl fun K hK=>?_;(try simp (disch:=omega) only[go_sem,Nat.reduceBEq,e0]);(first|refine hK _ _ ?_;clear hK K|refine Op1.lend rfl rfl (c1f) (hfzf) (.inr rfl) ?_;refine hK _ _ ?_;clear hK K|refine Op1.cally (Hr:=[]) rfl rfl (c2) rfl (by rw[z's];exact z'9 _) (fun q hq=>?_);refine hK _ _ ?_;clear hK K|refine Op1.cally (Hr:=[]) rfl rfl (c3 q hq) rfl (by rw[z's];exact z'9 _) (fun q hq=>?_);refine hK _ _ ?_;clear hK K)|refine st rfl ?_|refine sc rfl ?_|refine nl ?_
  exact v'9 T rfl (z'w _) ⟨q,hq,rfl,by first|exact z's _|rfl⟩
 ·have e0:(x'H c x == y'P u row x.e)=false:=by simpa using h0
  rw[if_neg h0]
  repeat' first|refine dr (id:=0) T 15 (by kernel_rfl) ?_|refine gn ?_|apply VCg.step T rfl rfl;focus((try simp (disch:=omega) only[go_sem,Nat.reduceBEq,Nat.reduceAdd]);(first|exact rfl|refine Op1.lend rfl rfl (c0) (hfz0) (.inr rfl) ?_;exact⟨rfl,rfl⟩|refine Op1.lend rfl rfl (c1) (hfz) (.inr rfl) ?_;exact⟨rfl,rfl⟩))|refine vs T rfl fun K hK=>?_;(try simp (disch:=omega) only[go_sem,Nat.reduceBEq,e0]);(first|refine hK _ _ ?_;clear hK K|refine Op1.lend rfl rfl (c1f) (hfzf) (.inr rfl) ?_;refine hK _ _ ?_;clear hK K|refine Op1.cally (Hr:=[]) rfl rfl (c2) rfl (by rw[z's];exact z'9 _) (fun q hq=>?_);refine hK _ _ ?_;clear hK K)|refine st rfl ?_|refine sc rfl ?_|refine nl ?_
  exact v'9 T rfl (z'w _) ⟨q,hq,rfl,by first|exact z's _|rfl⟩
end
end Go.Proofs.YthlkpnjjkgmlkaaGreat
