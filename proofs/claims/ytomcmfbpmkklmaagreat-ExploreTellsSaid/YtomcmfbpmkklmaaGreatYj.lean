/- What each instruction does to a configuration of one's own. No condition. -/
import Derived.Test.YtomcmfbpmkklmaaGreatYi
import Derived.Test.YtomcmfbpmkklmaaGreatK2
namespace Go.Proofs.YtomcmfbpmkklmaaGreat
set_option maxHeartbeats 16000000
set_option linter.unusedSimpArgs false
set_option linter.unusedVariables false
set_option maxRecDepth 20000
open Go Go.Proofs Go.Vc
attribute [local irreducible] y'0 VCg VCw VCx
def y'm (c:Cf) (x:Ins):Int:=c.mem.getD x.loc.toNat 0
theorem Zih (u:Un) (c:Cf) (m r t:Int) (x:Ins) (hx:0≤x.loc∧x.loc<c.mem.length):Pure Tryz.prog 230 [.pt (doF u c m r t x)] (iD (y'm c x)):=by
 obtain⟨v,hv⟩: ∃v,c.mem[x.loc.toNat]?=some v:=⟨_,z'b (by omega)⟩
 have rv:(iRs c.mem)[x.loc.toNat]?=some [iD v]:=by rw[y'y,hv];rfl
 have hM:y'm c x=v:=by simp[y'm,z'd,hv]
 rw[hM]
 refine Fun.of T [.tmp 2] Tryz.func230 rfl Tryz.ntmps230 Tryz.results230 rfl (by kernel_rfl) ?_
 repeat' first|refine dr (id:=1) T 10 (by kernel_rfl) ?_|refine gn ?_|apply VCg.step T rfl rfl;focus((try simp (disch:=omega) only[go_sem,Nat.reduceBEq]);(exact rfl))|refine vs T rfl fun K hK=>?_;(try simp (disch:=omega) only[go_sem,Nat.reduceBEq,rv,z'l]);(first|refine hK _ _ ?_;clear hK K|refine⟨?_,hK _ _ ?_⟩<;>clear hK K;focus(try omega))|refine st rfl ?_|refine nl ?_|exact z'j T (z'a _) ⟨rfl,rfl⟩
structure Fit (u:Un) (c:Cf) (i:Nat) (x:Ins) (row:List Int) (b:List En):Prop where
 okc:OkC c
 pc:i<c.pc.length
 reg:c.regs[i]?=some row
 buf:c.bufs[i]?=some b
 e:x.e.length≤1000
 f:x.f.length≤1000
 r:(x.op=2∨x.op=3∨x.op=5∨x.op=6∨x.op=7)→0≤x.reg∧x.reg<row.length
 l:(x.op=4∨x.op=5∨x.op=6∨x.op=7)→0≤x.loc∧x.loc<c.mem.length
 m: ∀n,n∈c.mem→ -1000000≤n∧n≤1000000
 v: -1000000≤z'1 u row x.e∧z'1 u row x.e≤1000000
 md:u.md≠0
theorem ZjQ {u:Un} {c:Cf} {i:Nat} {x:Ins} {row:List Int} {b:List En} (h:Fit u c i x row b): -1000000≤y'm c x∧y'm c x≤1000000:=by
 unfold y'm
 rw[z'd]
 cases hv:c.mem[x.loc.toNat]? with
 |none=>simp
 |some v=>exact h.m v (z'f hv)
def y'W (c:Cf) (i:Nat) (row:List Int) (x:Ins) (n:Int):Cf:=x'p c i (row.set x.reg.toNat n)
def y'B (u:Un) (c:Cf) (m:Int) (i:Nat) (x:Ins) (row:List Int) (b:List En):Cf:=
 if x.op=20 then setP c i x.to else if x.op=21 then(if z'1 u row x.e=0 then setP c i x.to else c)else if x.op=2 then y'W c i row x (z'1 u row x.e)else if x.op=3 then y'W c i row x (x'x c (i:Nat) x.loc)
 else if x.op=4 then(if m=1 then y'I c x.loc.toNat (z'1 u row x.e)else y'1 c i (x'2 m (x.loc,z'1 u row x.e) b))
 else if x.op=5 then(if y'm c x=z'1 u row x.e then y'I (y'W c i row x (y'm c x)) x.loc.toNat (z'1 u row x.f)else y'W c i row x (y'm c x))
 else if x.op=6 then y'I (y'W c i row x (y'm c x)) x.loc.toNat ((y'm c x+z'1 u row x.e).tmod u.md)
 else if x.op=7 then y'I (y'W c i row x (y'm c x)) x.loc.toNat (z'1 u row x.e)
 else c
abbrev ZbK (f:Nat) (bd:Nat) (u:Un) (q:OC) (c:Cf) (m r:Int) (i:Nat) (x:Ins) (c2:Cf):Prop:=
 Fun Tryz.prog f [pD bd] (dW bd u q c m r (i:Nat) x) false (fun d H'=> ∃q':OC,q'.ok c2∧d= .tup []∧H'=dW bd u q' c2 m r (i:Nat) x)
section
variable (bd : Nat) (u : Un) (q : OC) (c : Cf) (hq : q.ok c) (m r : Int) (i : Nat) (x : Ins) (row : List Int) (b : List En) (h : Fit u c i x row b)
include hq h
theorem Zkr (ho:x.op=2):ZbK 215 bd u q c m r i x (y'W c i row x (z'1 u row x.e)):=by
 have c1:=v'Z u c m r i x row h.reg x.e h.e (h.okc.row row (z'f h.reg))
 have c2:=Zel bd u q c hq m r i x row h.reg (h.r (.inl ho)) (z'1 u row x.e)
 have hfz:=Zct (bd:=bd) (u:=u) (m:=m) (r:=r) (t:=(i:Nat)) (x:=x) hq (z'R x.e)
 refine Fun.of T [] Tryz.func215 rfl Tryz.ntmps215 Tryz.results215 rfl (by kernel_rfl) ?_
 show VC _ _ _ ⟨_,(bd,.cells 239 18 (doO u q c m r (i:Nat) x))::q.h c []⟩ _
 repeat' first|refine vs T rfl fun K hK=>?_;(try simp (disch:=omega) only[go_sem,Nat.reduceBEq,Nat.reduceAdd]);(first|refine hK _ _ ?_;clear hK K|refine Op1.lend rfl rfl (c1) (hfz) (.inr rfl) ?_;refine hK _ _ ?_;clear hK K|refine Op1.cally (Hr:=[]) rfl rfl (c2) rfl (by rw[z'r];exact y'G _) (fun q hq=>?_);refine hK _ _ ?_;clear hK K)|refine st rfl ?_|refine nl ?_
 exact ZaY T rfl (z'm _) ⟨q,hq,rfl,by first|exact z'r _|rfl⟩
theorem Zof (ho:x.op=3):ZbK 216 bd u q c m r i x (y'W c i row x (x'x c (i:Nat) x.loc)):=by
 have c1:=ZiQ c h.okc.buf (i:Nat) x.loc
 have c2:=Zel bd u q c hq m r i x row h.reg (h.r (.inr (.inl ho))) (x'x c (i:Nat) x.loc)
 have hfz:=Zpq (bd:=bd) (u:=u) (m:=m) (r:=r) (t:=(i:Nat)) (x:=x) hq (iD (i:Nat)) (iD x.loc)
 refine Fun.of T [] Tryz.func216 rfl Tryz.ntmps216 Tryz.results216 rfl (by kernel_rfl) ?_
 show VC _ _ _ ⟨_,(bd,.cells 239 18 (doO u q c m r (i:Nat) x))::q.h c []⟩ _
 repeat' first|refine dr (id:=0) T 15 (by kernel_rfl) ?_|refine gn ?_|apply VCg.step T rfl rfl;focus((try simp (disch:=omega) only[go_sem,Nat.reduceBEq,Nat.reduceAdd,Nat.reduceLeDiff]);(first|exact rfl|refine Op1.lend rfl rfl (c1) (hfz) (.inr rfl) ?_;exact⟨rfl,rfl⟩))|refine vs T rfl fun K hK=>?_;(try simp (disch:=omega) only[go_sem]);(refine Op1.cally (Hr:=[]) rfl rfl (c2) rfl (by rw[z'r];exact y'G _) (fun q hq=>?_);refine hK _ _ ?_;clear hK K)|refine nl ?_
 exact ZaY T rfl (z'm _) ⟨q,hq,rfl,by first|exact z'r _|rfl⟩
theorem ZmZ (ho:x.op=4) (hm:(m == 1)=true):ZbK 217 bd u q c m r i x (y'I c x.loc.toNat (z'1 u row x.e)):=by
 have c1:=v'Z u c m r i x row h.reg x.e h.e (h.okc.row row (z'f h.reg))
 have c2:=ZdI bd u q c hq m r (i:Nat) x (h.l (.inl ho)) (z'1 u row x.e)
 have hfz:=Zct (bd:=bd) (u:=u) (m:=m) (r:=r) (t:=(i:Nat)) (x:=x) hq (z'R x.e)
 refine Fun.of T [] Tryz.func217 rfl Tryz.ntmps217 Tryz.results217 rfl (by kernel_rfl) ?_
 show VC _ _ _ ⟨_,(bd,.cells 239 18 (doO u q c m r (i:Nat) x))::q.h c []⟩ _
 repeat' first|refine vs T rfl fun K hK=>?_;(try simp (disch:=omega) only[go_sem,Nat.reduceBEq,Nat.reduceAdd,hm]);(first|refine hK _ _ ?_;clear hK K|refine Op1.lend rfl rfl (c1) (hfz) (.inr rfl) ?_;refine hK _ _ ?_;clear hK K|refine Op1.cally (Hr:=[]) rfl rfl (c2) rfl (by rw[z'r];exact y'G _) (fun q hq=>?_);refine hK _ _ ?_;clear hK K)|refine st rfl ?_|refine sc rfl ?_|refine nl ?_
 exact ZaY T rfl (z'm _) ⟨q,hq,rfl,by first|exact z'r _|rfl⟩
theorem ZnZ:ZbK 218 bd u q c m r i x (setP c i x.to):=by
 have c2:=Zg0 bd u q c hq m r i h.pc x x.to
 refine Fun.of T [] Tryz.func218 rfl Tryz.ntmps218 Tryz.results218 rfl (by kernel_rfl) ?_
 show VC _ _ _ ⟨_,(bd,.cells 239 18 (doO u q c m r (i:Nat) x))::q.h c []⟩ _
 repeat' first|refine vs T rfl fun K hK=>?_;(try simp (disch:=omega) only[go_sem,Nat.reduceBEq,Nat.reduceAdd]);(first|refine hK _ _ ?_;clear hK K|refine Op1.cally (Hr:=[]) rfl rfl (c2) rfl (by rw[z'r];exact y'G _) (fun q hq=>?_);refine hK _ _ ?_;clear hK K)|refine st rfl ?_|refine nl ?_
 exact ZaY T rfl (z'm _) ⟨q,hq,rfl,by first|exact z'r _|rfl⟩
theorem Zk6:ZbK 219 bd u q c m r i x (if z'1 u row x.e=0 then setP c i x.to else c):=by
 have c1:=v'Z u c m r i x row h.reg x.e h.e (h.okc.row row (z'f h.reg))
 have c2:=Zg0 bd u q c hq m r i h.pc x x.to
 have hfz:=Zct (bd:=bd) (u:=u) (m:=m) (r:=r) (t:=(i:Nat)) (x:=x) hq (z'R x.e)
 refine Fun.of T [] Tryz.func219 rfl Tryz.ntmps219 Tryz.results219 rfl (by kernel_rfl) ?_
 show VC _ _ _ ⟨_,(bd,.cells 239 18 (doO u q c m r (i:Nat) x))::q.h c []⟩ _
 by_cases h0:z'1 u row x.e=0
 ·have e0:(z'1 u row x.e == 0)=true:=by simpa using h0
  rw[if_pos h0]
  repeat' first|refine vs T rfl fun K hK=>?_;(try simp (disch:=omega) only[go_sem,Nat.reduceBEq,Nat.reduceAdd,e0]);(first|refine hK _ _ ?_;clear hK K|refine Op1.lend rfl rfl (c1) (hfz) (.inr rfl) ?_;refine hK _ _ ?_;clear hK K|refine Op1.cally (Hr:=[]) rfl rfl (c2) rfl (by rw[z'r];exact y'G _) (fun q hq=>?_);refine hK _ _ ?_;clear hK K)|refine st rfl ?_|refine sc rfl ?_|refine nl ?_
  exact ZaY T rfl (z'm _) ⟨q,hq,rfl,by first|exact z'r _|rfl⟩
 ·have e0:(z'1 u row x.e == 0)=false:=by simpa using h0
  rw[if_neg h0]
  repeat' first|refine vs T rfl fun K hK=>?_;(try simp (disch:=omega) only[go_sem,Nat.reduceBEq,Nat.reduceAdd,e0]);(first|refine hK _ _ ?_;clear hK K|refine Op1.lend rfl rfl (c1) (hfz) (.inr rfl) ?_;refine hK _ _ ?_;clear hK K)|refine st rfl ?_|refine sc rfl ?_|refine nl ?_
  exact ZaY T rfl (z'm _) ⟨q,hq,rfl,rfl⟩
theorem Zjb (ho:x.op=7):ZbK 222 bd u q c m r i x (y'I (y'W c i row x (y'm c x)) x.loc.toNat (z'1 u row x.e)):=by
 have c1:=v'Z u c m r i x row h.reg x.e h.e (h.okc.row row (z'f h.reg))
 have c0:=Zih u c m r (i:Nat) x (h.l (.inr (.inr (.inr ho))))
 have c2:=Zel bd u q c hq m r i x row h.reg (h.r (.inr (.inr (.inr (.inr ho))))) (y'm c x)
 have c3:=fun(q2:OC) (h2:q2.ok (y'W c i row x (y'm c x)))=>ZdI bd u q2 (y'W c i row x (y'm c x)) h2 m r (i:Nat) x (h.l (.inr (.inr (.inr ho)))) (z'1 u row x.e)
 have hfz:=Zct (bd:=bd) (u:=u) (m:=m) (r:=r) (t:=(i:Nat)) (x:=x) hq (z'R x.e)
 have hfz0:=ZgI (bd:=bd) (u:=u) (m:=m) (r:=r) (t:=(i:Nat)) (x:=x) hq
 refine Fun.of T [] Tryz.func222 rfl Tryz.ntmps222 Tryz.results222 rfl (by kernel_rfl) ?_
 show VC _ _ _ ⟨_,(bd,.cells 239 18 (doO u q c m r (i:Nat) x))::q.h c []⟩ _
 repeat' first|refine dr (id:=0) T 8 (by kernel_rfl) ?_|refine gn ?_|apply VCg.step T rfl rfl;focus((try simp (disch:=omega) only[go_sem,Nat.reduceBEq,Nat.reduceAdd]);(first|exact rfl|refine Op1.lend rfl rfl (c0) (hfz0) (.inr rfl) ?_;exact⟨rfl,rfl⟩))|refine vs T rfl fun K hK=>?_;(try simp (disch:=omega) only[go_sem,Nat.reduceBEq]);(first|refine hK _ _ ?_;clear hK K|refine Op1.lend rfl rfl (c1) (hfz) (.inr rfl) ?_;refine hK _ _ ?_;clear hK K|refine Op1.cally (Hr:=[]) rfl rfl (c2) rfl (by rw[z'r];exact y'G _) (fun q hq=>?_);refine hK _ _ ?_;clear hK K|refine Op1.cally (Hr:=[]) rfl rfl (c3 q hq) rfl (by rw[z'r];exact y'G _) (fun q hq=>?_);refine hK _ _ ?_;clear hK K)|refine st rfl ?_|refine nl ?_
 exact ZaY T rfl (z'm _) ⟨q,hq,rfl,by first|exact z'r _|rfl⟩
theorem Zo2 (ho:x.op=6):ZbK 221 bd u q c m r i x (y'I (y'W c i row x (y'm c x)) x.loc.toNat ((y'm c x+z'1 u row x.e).tmod u.md)):=by
 have c1:=v'Z u c m r i x row h.reg x.e h.e (h.okc.row row (z'f h.reg))
 have c0:=Zih u c m r (i:Nat) x (h.l (.inr (.inr (.inl ho))))
 have c2:=Zel bd u q c hq m r i x row h.reg (h.r (.inr (.inr (.inr (.inl ho))))) (y'm c x)
 have c3:=fun(q2:OC) (h2:q2.ok (y'W c i row x (y'm c x)))=>ZdI bd u q2 (y'W c i row x (y'm c x)) h2 m r (i:Nat) x (h.l (.inr (.inr (.inl ho)))) ((y'm c x+z'1 u row x.e).tmod u.md)
 have hfz:=Zct (bd:=bd) (u:=u) (m:=m) (r:=r) (t:=(i:Nat)) (x:=x) hq (z'R x.e)
 have hfz0:=ZgI (bd:=bd) (u:=u) (m:=m) (r:=r) (t:=(i:Nat)) (x:=x) hq
 have hb:=ZjQ h
 have hv:=h.v
 have hw:IntKind.i64.wrap (y'm c x+z'1 u row x.e)=y'm c x+z'1 u row x.e:=by rw[w64 (by omega)]
 have hmd:=h.md
 refine Fun.of T [] Tryz.func221 rfl Tryz.ntmps221 Tryz.results221 rfl (by kernel_rfl) ?_
 show VC _ _ _ ⟨_,(bd,.cells 239 18 (doO u q c m r (i:Nat) x))::q.h c []⟩ _
 repeat' first|refine dr (id:=0) T 8 (by kernel_rfl) ?_|refine gn ?_|apply VCg.step T rfl rfl;focus((try simp (disch:=omega) only[go_sem,Nat.reduceBEq,Nat.reduceAdd]);(first|exact rfl|refine Op1.lend rfl rfl (c0) (hfz0) (.inr rfl) ?_;exact⟨rfl,rfl⟩))|refine vs T rfl fun K hK=>?_;(try simp (disch:=omega) only[go_sem,Nat.reduceBEq,dW,hw,hmd,ne_eq,not_false_eq_true]);(first|refine hK _ _ ?_;clear hK K|refine Op1.lend rfl rfl (c1) (hfz) (.inr rfl) ?_;refine hK _ _ ?_;clear hK K|refine Op1.cally (Hr:=[]) rfl rfl (c2) rfl (by rw[z'r];exact y'G _) (fun q hq=>?_);refine hK _ _ ?_;clear hK K|refine Op1.cally (Hr:=[]) rfl rfl (c3 q hq) rfl (by rw[z'r];exact y'G _) (fun q hq=>?_);refine hK _ _ ?_;clear hK K)|refine st rfl ?_|refine nl ?_
 exact ZaY T rfl (z'm _) ⟨q,hq,rfl,by first|exact z'r _|rfl⟩
theorem Zok (ho:x.op=5):ZbK 220 bd u q c m r i x (if y'm c x=z'1 u row x.e then y'I (y'W c i row x (y'm c x)) x.loc.toNat (z'1 u row x.f)else y'W c i row x (y'm c x)):=by
 have c1:=v'Z u c m r i x row h.reg x.e h.e (h.okc.row row (z'f h.reg))
 have c1f:=v'Z u c m r i x row h.reg x.f h.f (h.okc.row row (z'f h.reg))
 have c0:=Zih u c m r (i:Nat) x (h.l (.inr (.inl ho)))
 have c2:=Zel bd u q c hq m r i x row h.reg (h.r (.inr (.inr (.inl ho)))) (y'm c x)
 have c3:=fun(q2:OC) (h2:q2.ok (y'W c i row x (y'm c x)))=>ZdI bd u q2 (y'W c i row x (y'm c x)) h2 m r (i:Nat) x (h.l (.inr (.inl ho))) (z'1 u row x.f)
 have hfz:=Zct (bd:=bd) (u:=u) (m:=m) (r:=r) (t:=(i:Nat)) (x:=x) hq (z'R x.e)
 have hfzf:=Zct (bd:=bd) (u:=u) (m:=m) (r:=r) (t:=(i:Nat)) (x:=x) hq (z'R x.f)
 have hfz0:=ZgI (bd:=bd) (u:=u) (m:=m) (r:=r) (t:=(i:Nat)) (x:=x) hq
 refine Fun.of T [] Tryz.func220 rfl Tryz.ntmps220 Tryz.results220 rfl (by kernel_rfl) ?_
 show VC _ _ _ ⟨_,(bd,.cells 239 18 (doO u q c m r (i:Nat) x))::q.h c []⟩ _
 by_cases h0:y'm c x=z'1 u row x.e
 ·have e0:(y'm c x == z'1 u row x.e)=true:=by simpa using h0
  rw[if_pos h0]
  repeat' first|refine dr (id:=0) T 15 (by kernel_rfl) ?_|refine gn ?_|apply VCg.step T rfl rfl;focus((try simp (disch:=omega) only[go_sem,Nat.reduceBEq,Nat.reduceAdd]);(first|exact rfl|refine Op1.lend rfl rfl (c0) (hfz0) (.inr rfl) ?_;exact⟨rfl,rfl⟩|refine Op1.lend rfl rfl (c1) (hfz) (.inr rfl) ?_;exact⟨rfl,rfl⟩))|refine vs T rfl fun K hK=>?_;(try simp (disch:=omega) only[go_sem,Nat.reduceBEq,e0]);(first|refine hK _ _ ?_;clear hK K|refine Op1.lend rfl rfl (c1f) (hfzf) (.inr rfl) ?_;refine hK _ _ ?_;clear hK K|refine Op1.cally (Hr:=[]) rfl rfl (c2) rfl (by rw[z'r];exact y'G _) (fun q hq=>?_);refine hK _ _ ?_;clear hK K|refine Op1.cally (Hr:=[]) rfl rfl (c3 q hq) rfl (by rw[z'r];exact y'G _) (fun q hq=>?_);refine hK _ _ ?_;clear hK K)|refine st rfl ?_|refine sc rfl ?_|refine nl ?_
  exact ZaY T rfl (z'm _) ⟨q,hq,rfl,by first|exact z'r _|rfl⟩
 ·have e0:(y'm c x == z'1 u row x.e)=false:=by simpa using h0
  rw[if_neg h0]
  repeat' first|refine dr (id:=0) T 15 (by kernel_rfl) ?_|refine gn ?_|apply VCg.step T rfl rfl;focus((try simp (disch:=omega) only[go_sem,Nat.reduceBEq,Nat.reduceAdd]);(first|exact rfl|refine Op1.lend rfl rfl (c0) (hfz0) (.inr rfl) ?_;exact⟨rfl,rfl⟩|refine Op1.lend rfl rfl (c1) (hfz) (.inr rfl) ?_;exact⟨rfl,rfl⟩))|refine vs T rfl fun K hK=>?_;(try simp (disch:=omega) only[go_sem,Nat.reduceBEq,e0]);(first|refine hK _ _ ?_;clear hK K|refine Op1.lend rfl rfl (c1f) (hfzf) (.inr rfl) ?_;refine hK _ _ ?_;clear hK K|refine Op1.cally (Hr:=[]) rfl rfl (c2) rfl (by rw[z'r];exact y'G _) (fun q hq=>?_);refine hK _ _ ?_;clear hK K)|refine st rfl ?_|refine sc rfl ?_|refine nl ?_
  exact ZaY T rfl (z'm _) ⟨q,hq,rfl,by first|exact z'r _|rfl⟩
end
theorem VCd.weak {P:Program} {n j:Nat} {ops:Array Oper} {s s':St} {Q:Exit→St→Prop} (h:Weak s s') (hv:VCd P n ops j s' Q):VCd P n ops j s Q:=fun x a w listed hn hs=>hv x a w listed hn (h x a w hs)
theorem VCd.nodup {P:Program} {n j:Nat} {ops:Array Oper} {s:St} {Q:Exit→St→Prop} (h:s.heap.blocks.Nodup→VCd P n ops j s Q):VCd P n ops j s Q:=fun x a w listed hn hs=>h hs.inv.nodup x a w listed hn hs
theorem VCo.nodup {P:Program} {n:Nat} {ops:Array Oper} {l:List Oper} {s:St} {Q:Exit→St→Prop} (h:s.heap.blocks.Nodup→VCo P n ops l s Q):VCo P n ops l s Q:=fun x a w hn hs=>h hs.inv.nodup x a w hn hs
theorem Zo8 (u:Un) (q:OC) (c:Cf) (hq:q.ok c) (m r:Int) (i:Nat) (x:Ins) (hx:AtX u c i x):Fun Tryz.prog 213 [.agg (unC u),.agg (q.cs c),iD m,iD r,iD (i:Nat)] (q.h c []) false
  (fun d H'=> ∃bd:Nat,True∧d= .tup [pD bd,bD true]∧H'=dW bd u q c m r (i:Nat) x):=by
 obtain⟨rw,p,h1,h2,h3,h4⟩:=hx.pc
 obtain⟨k,rfl⟩: ∃k:Nat,p=(k:Int):=⟨p.toNat,by omega⟩
 rw[z'o]at h4
 have l1:=(z'c.1 h1).1
 have l2:=(z'c.1 h2).1
 have l4:=(z'c.1 h4).1
 have r2:(x'6 u.code)[i]?=some [.sl false 7 (y'J rw)]:=by rw[x'C,h2];rfl
 have r4:(y'J rw)[k]?=some [iD x.op,iD x.reg,iD x.loc,z'R x.e,z'R x.f,bD x.ne,iD x.to]:=by rw[x'V,h4];rfl
 have e1:decide ((i:Int)<0)=false:=by simp
 have e2:decide ((i:Int)≥(c.pc.length:Int))=false:=by simp;omega
 obtain⟨gp,gr,gm,gb,rs⟩:=q
 rcases gp with _|⟨b,cap⟩
 ·have h0:c.pc.length=0:=hq.pc
  omega
 refine Fun.of T [.tmp 10,.tmp 11] Tryz.func213 rfl Tryz.ntmps213 Tryz.results213 rfl (by kernel_rfl) ?_
 show VC _ _ _ ⟨ZfD [.agg (unC u),.agg [.gs (some (b,cap)) c.pc.length,.gs gr c.regs.length,.gs gm c.mem.length,.gs gb c.bufs.length],iD m,iD r,iD (i:Nat)] 0,(b,.cells 3 (cap*1) (c.pc.map iD))::shp gr 22 1 (rgC rs) (shp gm 3 1 (c.mem.map iD) (shp gb 98 1 (c.bufs.map buf) (rgH rs [])))⟩ _
 repeat' first|refine vb (t:=25) rfl rfl rfl rfl ?_|refine vb (t:=43) rfl rfl rfl rfl ?_|refine dr (id:=3) T 17 (by kernel_rfl) ?_|refine gn ?_|(apply VCg.step T rfl rfl);focus((try simp (disch:=omega) only[go_sem,Nat.reduceBEq,Nat.reduceAdd,Nat.reduceLeDiff,z'w,h1,r2,r4,z'H,z'U]);(first|exact rfl|refine⟨?_,rfl⟩;try omega))|refine vs T rfl fun K hK=>?_;(try simp (disch:=omega) only[go_sem,Nat.reduceBEq,Nat.reduceAdd,e1,e2,z'w]);(first|refine hK _ _ ?_;clear hK K|intro bq hbq;(try simp only[HB]at hbq);refine hK _ _ ?_;clear hK K)|refine st rfl ?_|refine sc rfl ?_|refine nl ?_|refine gs rfl rfl ?_
 first|exact x'E T (z'm _) ⟨bq,trivial,rfl,by simp[dW,OC.h,y'g]⟩|exact x'E T (z'm _) ⟨bq,rfl,by simp[dW,OC.h,y'g]⟩
def fnX (op:Int):Option Nat:=if op=2 then some 215 else if op=3 then some 216 else if op=4 then some 217 else if op=20 then some 218
 else if op=21 then some 219 else if op=5 then some 220 else if op=6 then some 221 else if op=7 then some 222 else none
abbrev fV (f:Nat):Value:= .func (.func f) #[] #[]
def Zdn:List (Int×Value):=[(2,fV 215),(3,fV 216),(4,fV 217),(20,fV 218),(21,fV 219),(5,fV 220),(6,fV 221),(7,fV 222)]
theorem Zhi (op:Int):Zbc op Zdn=(fnX op).map fV:=by
 unfold Zdn fnX
 by_cases h2:op=2
 ·subst h2;rfl
 by_cases h3:op=3
 ·subst h3;rfl
 by_cases h4:op=4
 ·subst h4;rfl
 by_cases h20:op=20
 ·subst h20;rfl
 by_cases h21:op=21
 ·subst h21;rfl
 by_cases h5:op=5
 ·subst h5;rfl
 by_cases h6:op=6
 ·subst h6;rfl
 by_cases h7:op=7
 ·subst h7;rfl
 simp only[Zbc,h2,h3,h4,h20,h21,h5,h6,h7,if_false,beq_eq_false_iff_ne.2 h2,beq_eq_false_iff_ne.2 h3,beq_eq_false_iff_ne.2 h4,beq_eq_false_iff_ne.2 h20,beq_eq_false_iff_ne.2 h21,beq_eq_false_iff_ne.2 h5,beq_eq_false_iff_ne.2 h6,beq_eq_false_iff_ne.2 h7,cond_false]
 rfl
theorem Zog {f:Nat} {bd:Nat} {u:Un} {q:OC} {c:Cf} (hq:q.ok c) {m r:Int} {i:Nat} {x:Ins} {row:List Int} {b:List En} (h:Fit u c i x row b) (hf:fnX x.op=some f):ZbK f bd u q c m r i x (y'B u c m i x row b):=by
 unfold fnX at hf
 unfold y'B
 by_cases h2:x.op=2
 ·rw[if_pos h2]at hf;cases hf
  simp only[h2,show ¬((2:Int)=20) by decide,show ¬((2:Int)=21) by decide,if_false,if_true]
  exact Zkr bd u q c hq m r i x row b h h2
 rw[if_neg h2]at hf
 by_cases h3:x.op=3
 ·rw[if_pos h3]at hf;cases hf
  simp only[h3,show ¬((3:Int)=20) by decide,show ¬((3:Int)=21) by decide,show ¬((3:Int)=2) by decide,if_false,if_true]
  exact Zof bd u q c hq m r i x row b h h3
 rw[if_neg h3]at hf
 by_cases h4:x.op=4
 ·rw[if_pos h4]at hf;cases hf
  simp only[h4,show ¬((4:Int)=20) by decide,show ¬((4:Int)=21) by decide,show ¬((4:Int)=2) by decide,show ¬((4:Int)=3) by decide,if_false,if_true]
  by_cases hm:m=1
  ·rw[if_pos hm]
   exact ZmZ bd u q c hq m r i x row b h h4 (by simpa using hm)
  ·rw[if_neg hm]
   exact ZnK bd u q c h.okc hq m r (by simpa using hm) i x h.e row h.reg b h.buf
 rw[if_neg h4]at hf
 by_cases h20:x.op=20
 ·rw[if_pos h20]at hf;cases hf
  rw[if_pos h20]
  exact ZnZ bd u q c hq m r i x row b h
 rw[if_neg h20]at hf
 by_cases h21:x.op=21
 ·rw[if_pos h21]at hf;cases hf
  rw[if_neg h20,if_pos h21]
  exact Zk6 bd u q c hq m r i x row b h
 rw[if_neg h21]at hf
 by_cases h5:x.op=5
 ·rw[if_pos h5]at hf;cases hf
  simp only[h5,show ¬((5:Int)=20) by decide,show ¬((5:Int)=21) by decide,show ¬((5:Int)=2) by decide,show ¬((5:Int)=3) by decide,show ¬((5:Int)=4) by decide,if_false,if_true]
  exact Zok bd u q c hq m r i x row b h h5
 rw[if_neg h5]at hf
 by_cases h6:x.op=6
 ·rw[if_pos h6]at hf;cases hf
  simp only[h6,show ¬((6:Int)=20) by decide,show ¬((6:Int)=21) by decide,show ¬((6:Int)=2) by decide,show ¬((6:Int)=3) by decide,show ¬((6:Int)=4) by decide,show ¬((6:Int)=5) by decide,if_false,if_true]
  exact Zo2 bd u q c hq m r i x row b h h6
 rw[if_neg h6]at hf
 by_cases h7:x.op=7
 ·rw[if_pos h7]at hf;cases hf
  simp only[h7,show ¬((7:Int)=20) by decide,show ¬((7:Int)=21) by decide,show ¬((7:Int)=2) by decide,show ¬((7:Int)=3) by decide,show ¬((7:Int)=4) by decide,show ¬((7:Int)=5) by decide,show ¬((7:Int)=6) by decide,if_false,if_true]
  exact Zjb bd u q c hq m r i x row b h h7
 rw[if_neg h7]at hf
 cases hf
theorem ZmK {u:Un} {c:Cf} {m:Int} {i:Nat} {x:Ins} {row:List Int} {b:List En} (hf:fnX x.op=none):y'B u c m i x row b=c:=by
 unfold fnX at hf
 unfold y'B
 repeat' split at hf
 all_goals first|cases hf|skip
 simp_all
theorem umX:Tryz.prog.underlying 241=some (.map 3 240):=by kernel_rfl
theorem zX:(Tryz.prog.info? 240).bind (·.zero)=some .nilFunc:=by kernel_rfl
theorem ZoY (u:Un) (c:Cf) (hc:OkC c) (m r:Int) (i:Nat) (x:Ins) (row:List Int) (b0:List En) (h:Thr u c i x row b0) (p:Nat) (hp:c.pc[i]?=some (p:Int)) (hpl:p≤100000) (hF:Fit u (setP c i ((p+1:Nat):Int)) i x row b0):
  Fun Tryz.prog 210 [.agg (unC u),.agg (cfC c),iD m,iD r,iD (i:Nat)] [] false
  (fun d H'=> ∃q:OC,q.ok (match enT u c m r (i:Nat)with|true=>y'B u (setP c i ((p+1:Nat):Int)) m i x row b0|false=>c)∧
   d= .tup [.agg (q.cs (match enT u c m r (i:Nat)with|true=>y'B u (setP c i ((p+1:Nat):Int)) m i x row b0|false=>c)),bD (enT u c m r (i:Nat))]∧
   H'=q.h (match enT u c m r (i:Nat)with|true=>y'B u (setP c i ((p+1:Nat):Int)) m i x row b0|false=>c) []):=by
 have hil:=(z'c.1 hp).1
 have cc:=Zfb c hc
 have hw:IntKind.i64.wrap ((p:Int)+1)=((p+1:Nat):Int):=by rw[w64 (by omega)];omega
 have ce:=ZgE u c hc m r i x h.e row h.reg b0 h.buf
 rw[←ZbT h]at ce
 refine Fun.of T [.cell 10 43,.tmp 11] Tryz.func210 rfl Tryz.ntmps210 Tryz.results210 rfl (by kernel_rfl) ?_
 repeat' first|refine vb (t:=25) rfl rfl rfl rfl ?_|refine vb (t:=43) rfl rfl rfl rfl ?_|refine VC.drawS (id:=1) (by kernel_rfl) ?_|refine VCd.group T (s:=0) 6 11 rfl rfl (by kernel_rfl) (by kernel_rfl) (by kernel_rfl) ?_;(try simp only[y'o,Nat.reduceSub])|refine VCg.nil T ?_;simp only[w'b,WB]|apply VCg.step T rfl rfl;focus((try simp (disch:=omega) only[go_sem,Nat.reduceBEq,Nat.reduceAdd,Nat.reduceLeDiff]);(exact rfl))|refine VCg.ownx T rfl rfl rfl rfl (cc) rfl ?_|refine vs T rfl fun K hK=>?_;(try simp (disch:=omega) only[go_sem,Nat.reduceAdd]);(first|refine hK _ _ ?_;clear hK K|intro bq hbq;(try simp only[HB]at hbq);refine hK _ _ ?_;clear hK K)|refine st rfl ?_|refine nl ?_
 rintro _ _ ⟨q,hq,rfl,rfl⟩ hap
 obtain⟨gp,gr,gm,gb,rs⟩:=q
 rcases gp with _|⟨b,cap⟩
 ·have h0:c.pc.length=0:=hq.pc
  omega
 refine VCd.one rfl (by decide) (by kernel_rfl) rfl rfl (fun K hK=>?_)
 refine Op1.cally (Hr:=[(bq,.cells 43 4 [.gs none 0,.gs none 0,.gs none 0,.gs none 0])]) rfl rfl (Zo8 u _ c hq m r i x h.at_) rfl (y'G _) (fun bd _=>?_)
 refine hK _ _ ?_
 clear hK K
 show VCd _ _ _ _ ⟨upd _ 24 (.tup [pD bd,bD true]),_⟩ _
 refine VCd.weak (Weak.perm (H':=(bq,.cells 43 4 [.gs none 0,.gs none 0,.gs none 0,.gs none 0])::dW bd u ⟨some (b,cap),gr,gm,gb,rs⟩ c m r (i:Nat) x) (y'e fun a=>by simp only[z'2,y'a,y'c];omega)) ?_
 refine VCd.nodup fun hn=>?_
 have n1: ¬bq=bd:=fun h=>by subst h;simp[Heap.blocks,dW]at hn
 have n2: ¬bq=b:=fun h=>by subst h;simp[Heap.blocks,dW,OC.h,y'g]at hn
 have n3: ¬bd=b:=fun h=>by subst h;simp[Heap.blocks,dW,OC.h,y'g]at hn
 have hfz:=FzL.sub (H':=(bq,.cells 43 4 [.gs none 0,.gs none 0,.gs none 0,.gs none 0])::dW bd u ⟨some (b,cap),gr,gm,gb,rs⟩ c m r (i:Nat) x) (fun y hy=>z'e _ hy) (ZgI (bd:=bd) (u:=u) (m:=m) (r:=r) (t:=(i:Nat)) (x:=x) hq)
 cases hen:enT u c m r (i:Nat)with
 |false=>
  rw[hen]at ce
  repeat' first|refine VCd.tail (f:=11) (by kernel_rfl) ?_;(try simp only[y'w,y'o])|refine VCd.group T (s:=7) 11 11 rfl rfl (by kernel_rfl) (by kernel_rfl) (by kernel_rfl) ?_;(try simp only[y'w,y'o,Nat.reduceSub])|refine gn ?_|apply VCg.step T rfl rfl;focus((try simp (disch:=omega) only[go_sem,Nat.reduceBEq,dW]);(exact rfl))|refine vs T rfl fun K hK=>?_;(try simp (disch:=omega) only[go_sem,Nat.reduceBEq,Nat.reduceAdd,Nat.reduceLeDiff,dW,z'i,z'q]);(first|refine hK _ _ ?_;clear hK K|refine Op1.lend rfl rfl (ce) (hfz) (.inr rfl) ?_;refine hK _ _ ?_;clear hK K)|refine st rfl ?_|refine sc rfl ?_|refine nl ?_|refine ov ?_
  exact y'T T rfl (by(try simp (disch:=omega) only[hget_ne,hget_eq]);rfl) rfl rfl rfl ((z'9 _ _).trans (z'9 _ _)) ⟨⟨some (b,cap),gr,gm,gb,rs⟩,hq,rfl,rfl⟩
 |true=>
  rw[hen]at ce
  show VCd _ _ _ _ ⟨_,(bq,_)::(bd,.cells _ 18 (doO u ⟨some (b,cap),gr,gm,gb,rs⟩ c m r (i:Nat) x))::(b,.cells 3 (cap*1) (c.pc.map iD))::shp gr 22 1 (rgC rs) (shp gm 3 1 (c.mem.map iD) (shp gb 98 1 (c.bufs.map buf) (rgH rs [])))⟩ _
  have hp1:c.pc[i*1]?=some (p:Int):=by rw[z'w];exact hp
  repeat' first|refine vt rfl fun K hK=>?_;refine Zg5 rfl umX (fun x hx=>(by cases hx)) (fun bq hbq=>?_);(try simp only[HB]at hbq);refine hK _ _ ?_;clear hK K;(try simp only[updO])|refine vt rfl fun K hK=>?_;refine ZiG (by exact .inr rfl) umX Tryz.underlying3 rfl rfl rfl (by(try simp (disch:=omega) only[hget_eq]);rfl) (by rfl) ?_;refine hK _ _ ?_;clear hK K;(try simp (disch:=omega) only[updO,hset_eq,z'N,z'T])|refine VCd.tail (f:=11) (by kernel_rfl) ?_;(try simp only[y'w,y'o])|refine VCd.group T (s:=7) 11 11 rfl rfl (by kernel_rfl) (by kernel_rfl) (by kernel_rfl) ?_;(try simp only[y'w,y'o,Nat.reduceSub])|refine gn ?_|apply VCg.step T rfl rfl;focus((try simp (disch:=omega) only[go_sem,Nat.reduceBEq]);(exact rfl))|refine vs T rfl fun K hK=>?_;(try simp (disch:=omega) only[go_sem,Nat.reduceBEq,hp1,hw,z'i]);(first|refine hK _ _ ?_;clear hK K|refine⟨?_,hK _ _ ?_⟩<;>clear hK K;focus(try omega)|refine Op1.lend rfl rfl (ce) (hfz) (.inr rfl) ?_;refine hK _ _ ?_;clear hK K|skip)|refine st rfl ?_|refine sc rfl ?_|refine nl ?_|refine ov ?_
  rename_i bc hbc hx0
  refine Op1.cally (Hr:=[(bq,.obj (v'i Zdn)),(bc,.cells 43 4 [.gs none 0,.gs none 0,.gs none 0,.gs none 0])]) rfl rfl (Zg0 bd u _ c hq m r i hil x ((p+1:Nat):Int)) rfl (y'e fun a=>by simp only[Zdn,fV,dW,doO,OC.h,y'g,y'l,y'A,z'2,y'a,y'c];omega) (fun q1 hq1=>?_)
  refine hK _ _ ?_
  clear hK K
  try simp only[updO]
  refine vo ?_
  refine VCo.weak (Weak.perm (H':=(bq,.obj (v'i Zdn))::(bc,.cells 43 4 [.gs none 0,.gs none 0,.gs none 0,.gs none 0])::dW bd u q1 (setP c i ((p+1:Nat):Int)) m r (i:Nat) x) (y'e fun a=>by simp only[Zdn,fV,dW,doO,OC.h,y'g,y'l,y'A,z'2,y'a,y'c];omega)) ?_
  refine VCo.nodup fun hn2=>?_
  have n4: ¬bq=bd:=fun h=>by subst h;simp[Heap.blocks,dW]at hn2
  have n5: ¬bc=bd:=fun h=>by subst h;simp[Heap.blocks,dW]at hn2
  have n6: ¬bq=bc:=fun h=>by subst h;simp[Heap.blocks,dW]at hn2
  repeat' first|refine vs T rfl fun K hK=>?_;(try simp (disch:=omega) only[go_sem,Nat.reduceBEq,dW]);(first|refine hK _ _ ?_;clear hK K|skip)|refine st rfl ?_|refine nl ?_|refine ov ?_
  cases hf:fnX x.op with
  |none=>
   refine ZgV rfl umX Tryz.underlying3 zX rfl rfl hget_eq (r:=(.nilFunc,false)) (by rw[Zhi,hf];rfl) (fun cs h=>by cases h) ?_
   refine hK _ _ ?_
   clear hK K
   try simp only[updO]
   rw[ZmK hf]
   repeat' first|refine vs T rfl fun K hK=>?_;(try simp (disch:=omega) only[go_sem,Nat.reduceBEq,Nat.reduceAdd,Nat.reduceLeDiff,ZfB]);(refine hK _ _ ?_;clear hK K)|refine st rfl ?_|refine sc rfl ?_|refine nl ?_
   exact y'T T rfl (by(try simp (disch:=omega) only[hget_ne,hget_eq]);rfl) rfl rfl rfl ((z'9 _ _).trans ((z'9 _ _).trans (z'9 _ _))) ⟨q1,hq1,rfl,rfl⟩
  |some f=>
   refine ZgV rfl umX Tryz.underlying3 zX rfl rfl hget_eq (r:=(fV f,true)) (by rw[Zhi,hf];rfl) (fun cs h=>by cases h) ?_
   refine hK _ _ ?_
   clear hK K
   try simp only[updO]
   repeat' first|refine vs T rfl fun K hK=>?_;(try simp (disch:=omega) only[go_sem,Nat.reduceBEq,ZfB]);(first|refine hK _ _ ?_;clear hK K|skip)|refine st rfl ?_|refine sc rfl ?_|refine nl ?_
   refine Op1.cally (Hr:=[(bq,.obj (v'i Zdn)),(bc,.cells 43 4 [.gs none 0,.gs none 0,.gs none 0,.gs none 0])]) rfl rfl (Zog (m:=m) (r:=r) hq1 hF hf) rfl (y'e fun a=>by simp only[Zdn,fV,dW,doO,OC.h,y'g,y'l,y'A,z'2,y'a,y'c];omega) (fun q2 hq2=>?_)
   refine hK _ _ ?_
   clear hK K
   try simp only[updO]
   refine vo ?_
   refine VCo.weak (Weak.perm (H':=(bq,.obj (v'i Zdn))::(bc,.cells 43 4 [.gs none 0,.gs none 0,.gs none 0,.gs none 0])::dW bd u q2 (y'B u (setP c i ((p+1:Nat):Int)) m i x row b0) m r (i:Nat) x) (y'e fun a=>by simp only[Zdn,fV,dW,doO,OC.h,y'g,y'l,y'A,z'2,y'a,y'c];omega)) ?_
   repeat' first|refine vs T rfl fun K hK=>?_;(try simp (disch:=omega) only[go_sem,Nat.reduceBEq,Nat.reduceAdd,Nat.reduceLeDiff,dW]);(refine hK _ _ ?_;clear hK K)|refine st rfl ?_|refine nl ?_|refine ov ?_
   exact y'T T rfl (by(try simp (disch:=omega) only[hget_ne,hget_eq]);rfl) rfl rfl rfl ((z'9 _ _).trans ((z'9 _ _).trans (z'9 _ _))) ⟨q2,hq2,rfl,rfl⟩
def w'Q (c:Cf) (m t loc:Int):Cf:=match x'n c m t loc with
 |true=>y'I (y'1 c t.toNat (y'L m loc (c.bufs.getD t.toNat [])).1) (y'L m loc (c.bufs.getD t.toNat [])).2.1.1.toNat (y'L m loc (c.bufs.getD t.toNat [])).2.1.2
 |false=>c
def Zh2 (c:Cf):Prop:= ∀b,b∈c.bufs→ ∀e,e∈b→0≤e.1∧e.1<c.mem.length
theorem ZgM {m loc:Int} {b:List En} (h:(y'L m loc b).2.2=true):(y'L m loc b).2.1∈b:=by
 unfold y'L at h⊢
 cases hn:z'Y m loc b with
 |none=>rw[hn]at h;cases h
 |some k=>
  have hk:=Zb3 hn
  simp only
  rw[z'b hk]
  exact List.getElem_mem hk
theorem cfz {q:OC} {c:Cf} (h:q.ok c) {H:Heap} (hm: ∀y,y∈q.h c []→y∈H) (v:Bool):Fz H (.tup [.agg (cfC c),bD v]) (.tup [.agg (q.cs c),bD v]):=
 ⟨_,rfl,z'E ⟨_,rfl,OC.fzL (X:=[]) h hm⟩ (FzL.refl _ _)⟩
theorem ZmV (c:Cf) (hc:OkC c) (hin:Zh2 c) (m t loc:Int):Pure Tryz.prog 239 [.agg (cfC c),iD m,iD t,iD loc] (.tup [.agg (cfC (w'Q c m t loc)),bD (x'n c m t loc)]):=by
 have cc:=Zfb c hc
 have cf:=ZgC c hc.buf m t loc
 refine Fun.fz ?_
 refine Fun.of T [.cell 8 43,.tmp 9] Tryz.func239 rfl Tryz.ntmps239 Tryz.results239 rfl (by kernel_rfl) ?_
 repeat' first|refine vb (t:=43) rfl rfl rfl rfl ?_|refine vs T rfl fun K hK=>?_;(try simp (disch:=omega) only[go_sem,Nat.reduceBEq,Nat.reduceAdd,Nat.reduceLeDiff]);(first|refine hK _ _ ?_;clear hK K|intro bq hbq;(try simp only[HB]at hbq);refine hK _ _ ?_;clear hK K|skip)|refine st rfl ?_|refine nl ?_
 refine Op1.callx rfl rfl cc rfl (fun q hq=>?_)
 refine hK _ _ ?_
 clear hK K
 refine vo ?_
 refine VCo.weak (Weak.perm (H':=(bq,.cells 43 4 [.gs none 0,.gs none 0,.gs none 0,.gs none 0])::q.h c []) (y'e fun a=>by simp only[z'2,y'a,y'c];omega)) ?_
 revert bq
 intro b8
 cases hfl:x'n c m t loc with
 |false=>
  rw[hfl]at cf
  have hfc:w'Q c m t loc=c:=by simp[w'Q,hfl]
  rw[hfc]
  repeat' first|refine vs T rfl fun K hK=>?_;(try simp (disch:=omega) only[go_sem,Nat.reduceBEq,Nat.reduceAdd,Nat.reduceLeDiff,OC.cs,z'q]);(first|refine hK _ _ ?_;clear hK K|intro bq hbq;(try simp only[HB]at hbq);refine hK _ _ ?_;clear hK K|refine Op1.callp rfl rfl (cf) rfl ?_;refine hK _ _ ?_;clear hK K)|refine st rfl ?_|refine sc rfl ?_|refine nl ?_|refine ov ?_
  exact y'T T rfl (by(try simp (disch:=omega) only[hget_ne,hget_eq]);rfl) rfl rfl rfl (z'm _) (cfz hq (fun y hy=>z'e _ (z'e _ hy)) false)
 |true=>
  rw[hfl]at cf
  have ht0:0≤t:=by
   rcases ZaF t 0 with h|h
   ·simp[x'n,x'd.2 h]at hfl
   ·exact h
  obtain⟨i,rfl⟩: ∃i:Nat,t=(i:Int):=⟨t.toNat,by omega⟩
  obtain⟨b,hb⟩: ∃b,c.bufs[i]?=some b:=by
   cases hb:c.bufs[i]? with
   |none=>simp[x'n,hb]at hfl
   |some b=>exact⟨b,rfl⟩
  have hil:=(z'c.1 hb).1
  have kb:=hc.buf b (z'f hb)
  have hp2:(y'L m loc b).2.2=true:=by simpa[x'n,hb]using hfl
  have hem:=hin b (z'f hb) _ (ZgM hp2)
  have rb:(y'U c.bufs)[i]?=some [buf b]:=by rw[y'P,hb];rfl
  have cp:Pure Tryz.prog 241 [buf b,iD m,iD loc] (.tup [buf (y'L m loc b).1,.agg [iD (y'L m loc b).2.1.1,iD (y'L m loc b).2.1.2],bD (y'L m loc b).2.2]):=ZlM b (by omega) m loc
  have hfc:w'Q c m (i:Nat) loc=y'I (y'1 c i (y'L m loc b).1) (y'L m loc b).2.1.1.toNat (y'L m loc b).2.1.2:=by simp[w'Q,hfl,z'd,hb]
  rw[hfc]
  have hq3:=OC.okM (OC.okB hq i (y'L m loc b).1) (y'L m loc b).2.1.1.toNat (y'L m loc b).2.1.2
  generalize (y'L m loc b)=pp at*
  obtain⟨b',⟨e1,e2⟩,is⟩:=pp
  simp only at hp2 hem cp hq3 hfc⊢
  obtain⟨gp,gr,gm,gb,rs⟩:=q
  rcases gb with _|⟨bb,capb⟩
  ·have h0:c.bufs.length=0:=hq.bufs
   omega
  rcases gm with _|⟨bm,capm⟩
  ·have h0:c.mem.length=0:=hq.mem
   omega
  refine VCo.weak (Weak.perm (H':=(b8,.cells 43 4 [.gs none 0,.gs none 0,.gs none 0,.gs none 0])::(bb,.cells 98 (capb*1) (c.bufs.map buf))::(bm,.cells 3 (capm*1) (c.mem.map iD))::shp gp 3 1 (c.pc.map iD) (shp gr 22 1 (rgC rs) (rgH rs []))) (y'e fun a=>by simp only[OC.h,y'g,y'l,y'A,z'2,y'a,y'c];omega)) ?_
  refine VCo.nodup fun hn=>?_
  have n1: ¬b8=bb:=fun h=>by subst h;simp[Heap.blocks]at hn
  have n2: ¬b8=bm:=fun h=>by subst h;simp[Heap.blocks]at hn
  have n3: ¬bb=bm:=fun h=>by subst h;simp[Heap.blocks]at hn
  repeat' first|refine VC.drawS (id:=5) (by kernel_rfl) ?_|refine vs T rfl fun K hK=>?_;(try simp (disch:=omega) only[go_sem,Nat.reduceBEq,Nat.reduceAdd,Nat.reduceLeDiff,OC.cs,z'i,rb,z'J]);(first|refine hK _ _ ?_;clear hK K|intro bq hbq;(try simp only[HB]at hbq);refine hK _ _ ?_;clear hK K|refine⟨?_,hK _ _ ?_⟩<;>clear hK K;focus(try omega)|refine Op1.callp rfl rfl (cf) rfl ?_;refine hK _ _ ?_;clear hK K|refine Op1.callp rfl rfl (cp) rfl ?_;refine hK _ _ ?_;clear hK K)|refine st rfl ?_|refine sc rfl ?_|refine nl ?_|refine ov ?_
  rename_i hb8 b10 hb10
  have hpm:((OC.mk gp gr (some (bm,capm)) (some (bb,capb)) rs).h (y'I (y'1 c i b') e1.toNat e2) []).Perm ((bb,.cells 98 (capb*1) ((c.bufs.map buf).set (i*1) (buf b')))::(bm,.cells 3 (capm*1) ((c.mem.map iD).set (e1.toNat*1) (iD e2)))::shp gp 3 1 (c.pc.map iD) (shp gr 22 1 (rgC rs) (rgH rs []))):=
   y'e fun a=>by simp only[OC.h,y'I,y'1,z'w,y'k,y'g,y'l,y'A,z'2,y'a,y'c];omega
  refine VCd.groupW T ((bq,.cells 127 2 [iD e1,iD e2])::(b10,.cells 43 4 [.gs gp c.pc.length,.gs gr c.regs.length,.gs (some (bm,capm)) c.mem.length,.gs (some (bb,capb)) c.bufs.length])::(b8,.cells 43 4 [.gs none 0,.gs none 0,.gs none 0,.gs none 0])::(bb,.cells 98 (capb*1) ((c.bufs.map buf).set (i*1) (buf b')))::(bm,.cells 3 (capm*1) (c.mem.map iD))::shp gp 3 1 (c.pc.map iD) (shp gr 22 1 (rgC rs) (rgH rs []))) 11 12 12 rfl rfl rfl (by kernel_rfl) (by kernel_rfl) (by kernel_rfl) ?_
  repeat' first|apply VCw.step T rfl rfl (by rfl);(focus((try simp (disch:=omega) only[go_sem,Nat.reduceBEq]);(first|exact rfl|refine⟨?_,rfl⟩;try omega)));(focus(try simp (disch:=omega) only[go_sem,Nat.reduceBEq]));(focus(try omega))|refine VCw.write T rfl rfl (by rfl) ?_ ?_;focus((try simp (disch:=omega) only[go_sem,Nat.reduceBEq]);omega)|refine VCw.nil T ?_|refine VCd.tail (f:=12) (by kernel_rfl) ?_;(try simp only[y'w,y'o])|refine vs T rfl fun K hK=>?_;(try simp (disch:=omega) only[go_sem,Nat.reduceBEq,Nat.reduceAdd,Nat.reduceLeDiff]);(first|refine hK _ _ ?_;clear hK K|refine⟨?_,hK _ _ ?_⟩<;>clear hK K;focus(try omega))|refine st rfl ?_|refine nl ?_|refine ov ?_
  have hcs:(OC.mk gp gr (some (bm,capm)) (some (bb,capb)) rs).cs (y'I (y'1 c i b') e1.toNat e2)=[.gs gp c.pc.length,.gs gr c.regs.length,.gs (some (bm,capm)) c.mem.length,.gs (some (bb,capb)) c.bufs.length]:=by simp[OC.cs,y'I,y'1]
  refine y'T T rfl (by(try simp (disch:=omega) only[hget_ne,hget_eq]);rfl) rfl rfl rfl (z'm _) ?_
  rw[←hcs]
  exact cfz hq3 (fun y hy=>z'e _ (z'e _ (z'e _ (hpm.mem_iff.1 hy)))) true
theorem Zg6 (c:Cf) (hc:OkC c) (hin:Zh2 c) (m t loc:Int):Pure Tryz.prog 103 [.agg (cfC c),iD m,iD t,iD loc] (.tup [.agg (cfC (w'Q c m t loc)),bD (x'n c m t loc)]):=by
 have cc:=w'6 c hc
 have cf:=Zdk c hc.buf m t loc
 refine Fun.fz ?_
 refine Fun.of T [.cell 8 43,.tmp 9] Tryz.func103 rfl Tryz.ntmps103 Tryz.results103 rfl (by kernel_rfl) ?_
 repeat' first|refine vb (t:=43) rfl rfl rfl rfl ?_|refine vs T rfl fun K hK=>?_;(try simp (disch:=omega) only[go_sem,Nat.reduceBEq,Nat.reduceAdd,Nat.reduceLeDiff]);(first|refine hK _ _ ?_;clear hK K|intro bq hbq;(try simp only[HB]at hbq);refine hK _ _ ?_;clear hK K|skip)|refine st rfl ?_|refine nl ?_
 refine Op1.callx rfl rfl cc rfl (fun q hq=>?_)
 refine hK _ _ ?_
 clear hK K
 refine vo ?_
 refine VCo.weak (Weak.perm (H':=(bq,.cells 43 4 [.gs none 0,.gs none 0,.gs none 0,.gs none 0])::q.h c []) (y'e fun a=>by simp only[z'2,y'a,y'c];omega)) ?_
 revert bq
 intro b8
 cases hfl:x'n c m t loc with
 |false=>
  rw[hfl]at cf
  have hfc:w'Q c m t loc=c:=by simp[w'Q,hfl]
  rw[hfc]
  repeat' first|refine vs T rfl fun K hK=>?_;(try simp (disch:=omega) only[go_sem,Nat.reduceBEq,Nat.reduceAdd,Nat.reduceLeDiff,OC.cs,z'q]);(first|refine hK _ _ ?_;clear hK K|intro bq hbq;(try simp only[HB]at hbq);refine hK _ _ ?_;clear hK K|refine Op1.callp rfl rfl (cf) rfl ?_;refine hK _ _ ?_;clear hK K)|refine st rfl ?_|refine sc rfl ?_|refine nl ?_|refine ov ?_
  exact y'T T rfl (by(try simp (disch:=omega) only[hget_ne,hget_eq]);rfl) rfl rfl rfl (z'm _) (cfz hq (fun y hy=>z'e _ (z'e _ hy)) false)
 |true=>
  rw[hfl]at cf
  have ht0:0≤t:=by
   rcases ZaF t 0 with h|h
   ·simp[x'n,x'd.2 h]at hfl
   ·exact h
  obtain⟨i,rfl⟩: ∃i:Nat,t=(i:Int):=⟨t.toNat,by omega⟩
  obtain⟨b,hb⟩: ∃b,c.bufs[i]?=some b:=by
   cases hb:c.bufs[i]? with
   |none=>simp[x'n,hb]at hfl
   |some b=>exact⟨b,rfl⟩
  have hil:=(z'c.1 hb).1
  have kb:=hc.buf b (z'f hb)
  have hp2:(y'L m loc b).2.2=true:=by simpa[x'n,hb]using hfl
  have hem:=hin b (z'f hb) _ (ZgM hp2)
  have rb:(y'U c.bufs)[i]?=some [buf b]:=by rw[y'P,hb];rfl
  have cp:Pure Tryz.prog 141 [buf b,iD m,iD loc] (.tup [buf (y'L m loc b).1,.agg [iD (y'L m loc b).2.1.1,iD (y'L m loc b).2.1.2],bD (y'L m loc b).2.2]):=ZjV b (by omega) m loc
  have hfc:w'Q c m (i:Nat) loc=y'I (y'1 c i (y'L m loc b).1) (y'L m loc b).2.1.1.toNat (y'L m loc b).2.1.2:=by simp[w'Q,hfl,z'd,hb]
  rw[hfc]
  have hq3:=OC.okM (OC.okB hq i (y'L m loc b).1) (y'L m loc b).2.1.1.toNat (y'L m loc b).2.1.2
  generalize (y'L m loc b)=pp at*
  obtain⟨b',⟨e1,e2⟩,is⟩:=pp
  simp only at hp2 hem cp hq3 hfc⊢
  obtain⟨gp,gr,gm,gb,rs⟩:=q
  rcases gb with _|⟨bb,capb⟩
  ·have h0:c.bufs.length=0:=hq.bufs
   omega
  rcases gm with _|⟨bm,capm⟩
  ·have h0:c.mem.length=0:=hq.mem
   omega
  refine VCo.weak (Weak.perm (H':=(b8,.cells 43 4 [.gs none 0,.gs none 0,.gs none 0,.gs none 0])::(bb,.cells 98 (capb*1) (c.bufs.map buf))::(bm,.cells 3 (capm*1) (c.mem.map iD))::shp gp 3 1 (c.pc.map iD) (shp gr 22 1 (rgC rs) (rgH rs []))) (y'e fun a=>by simp only[OC.h,y'g,y'l,y'A,z'2,y'a,y'c];omega)) ?_
  refine VCo.nodup fun hn=>?_
  have n1: ¬b8=bb:=fun h=>by subst h;simp[Heap.blocks]at hn
  have n2: ¬b8=bm:=fun h=>by subst h;simp[Heap.blocks]at hn
  have n3: ¬bb=bm:=fun h=>by subst h;simp[Heap.blocks]at hn
  repeat' first|refine vs T rfl fun K hK=>?_;(try simp (disch:=omega) only[go_sem,Nat.reduceBEq,Nat.reduceAdd,Nat.reduceLeDiff,OC.cs,z'i,rb,z'J]);(first|refine hK _ _ ?_;clear hK K|intro bq hbq;(try simp only[HB]at hbq);refine hK _ _ ?_;clear hK K|refine⟨?_,hK _ _ ?_⟩<;>clear hK K;focus(try omega)|refine Op1.callp rfl rfl (cf) rfl ?_;refine hK _ _ ?_;clear hK K|refine Op1.callp rfl rfl (cp) rfl ?_;refine hK _ _ ?_;clear hK K)|refine st rfl ?_|refine sc rfl ?_|refine nl ?_|refine ov ?_
  rename_i hb8 b10 hb10
  have hpm:((OC.mk gp gr (some (bm,capm)) (some (bb,capb)) rs).h (y'I (y'1 c i b') e1.toNat e2) []).Perm ((bb,.cells 98 (capb*1) ((c.bufs.map buf).set (i*1) (buf b')))::(bm,.cells 3 (capm*1) ((c.mem.map iD).set (e1.toNat*1) (iD e2)))::shp gp 3 1 (c.pc.map iD) (shp gr 22 1 (rgC rs) (rgH rs []))):=
   y'e fun a=>by simp only[OC.h,y'I,y'1,z'w,y'k,y'g,y'l,y'A,z'2,y'a,y'c];omega
  have hcs:(OC.mk gp gr (some (bm,capm)) (some (bb,capb)) rs).cs (y'I (y'1 c i b') e1.toNat e2)=[.gs gp c.pc.length,.gs gr c.regs.length,.gs (some (bm,capm)) c.mem.length,.gs (some (bb,capb)) c.bufs.length]:=by simp[OC.cs,y'I,y'1]
  refine y'T T rfl (by(try simp (disch:=omega) only[hget_ne,hget_eq]);rfl) rfl rfl rfl (z'm _) ?_
  rw[←hcs]
  exact cfz hq3 (fun y hy=>z'e _ (z'e _ (z'e _ (hpm.mem_iff.1 hy)))) true
end Go.Proofs.YtomcmfbpmkklmaaGreat
