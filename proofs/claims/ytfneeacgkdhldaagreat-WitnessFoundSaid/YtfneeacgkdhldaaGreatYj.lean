/- What each instruction does to a configuration of one's own. No condition. -/
import Derived.Test.YtfneeacgkdhldaaGreatYi
import Derived.Test.YtfneeacgkdhldaaGreatK2
namespace Go.Proofs.YtfneeacgkdhldaaGreat
set_option maxHeartbeats 16000000
set_option linter.unusedSimpArgs false
set_option linter.unusedVariables false
set_option maxRecDepth 20000
open Go Go.Proofs Go.Vc
attribute [local irreducible] y'5 VCg VCw VCx
def y'j (c:Cf) (x:Ins):Int:=c.mem.getD x.loc.toNat 0
theorem ZhR (u:Un) (c:Cf) (m r t:Int) (x:Ins) (hx:0≤x.loc∧x.loc<c.mem.length):Pure Tryz.prog 171 [.pt (doF u c m r t x)] (iD (y'j c x)):=by
 obtain⟨v,hv⟩: ∃v,c.mem[x.loc.toNat]?=some v:=⟨_,z'b (by omega)⟩
 have rv:(iRs c.mem)[x.loc.toNat]?=some [iD v]:=by rw[y'Q,hv];rfl
 have hM:y'j c x=v:=by simp[y'j,z'e,hv]
 rw[hM]
 refine Fun.of T [.tmp 2] Tryz.func171 rfl Tryz.ntmps171 Tryz.results171 rfl (by kernel_rfl) ?_
 repeat' first|refine dr (id:=1) T 10 (by kernel_rfl) ?_|refine gn ?_|apply VCg.step T rfl rfl;focus((try simp (disch:=omega) only[go_sem,Nat.reduceBEq]);(exact rfl))|refine vs T rfl fun K hK=>?_;(try simp (disch:=omega) only[go_sem,Nat.reduceBEq,rv,z'k]);(first|refine hK _ _ ?_;clear hK K|refine⟨?_,hK _ _ ?_⟩<;>clear hK K;focus(try omega))|refine st rfl ?_|refine nl ?_|exact z'n T (z'a _) ⟨rfl,rfl⟩
structure Fit (u:Un) (c:Cf) (i:Nat) (x:Ins) (row:List Int) (b:List En):Prop where
 okc:OkC c
 pc:i<c.pc.length
 reg:c.regs[i]?=some row
 buf:c.bufs[i]?=some b
 e:x.e.length≤1000
 f:x.f.length≤1000
 r:(x.op=2∨x.op=3∨x.op=5∨x.op=6∨x.op=7)→0≤x.reg∧x.reg<row.length
 l:(x.op=4∨x.op=5∨x.op=6∨x.op=7)→0≤x.loc∧x.loc<c.mem.length
 m: ∀n,n∈c.mem→ -1000000≤n∧n≤1000000
 v: -1000000≤z'3 u row x.e∧z'3 u row x.e≤1000000
 md:u.md≠0
theorem Zi8 {u:Un} {c:Cf} {i:Nat} {x:Ins} {row:List Int} {b:List En} (h:Fit u c i x row b): -1000000≤y'j c x∧y'j c x≤1000000:=by
 unfold y'j
 rw[z'e]
 cases hv:c.mem[x.loc.toNat]? with
 |none=>simp
 |some v=>exact h.m v (z'h hv)
def y'2 (c:Cf) (i:Nat) (row:List Int) (x:Ins) (n:Int):Cf:=x'p c i (row.set x.reg.toNat n)
def y'R (u:Un) (c:Cf) (m:Int) (i:Nat) (x:Ins) (row:List Int) (b:List En):Cf:=
 if x.op=20 then setP c i x.to else if x.op=21 then(if z'3 u row x.e=0 then setP c i x.to else c)else if x.op=2 then y'2 c i row x (z'3 u row x.e)else if x.op=3 then y'2 c i row x (x'u c (i:Nat) x.loc)
 else if x.op=4 then(if m=1 then y'N c x.loc.toNat (z'3 u row x.e)else x'v c i (w'c m (x.loc,z'3 u row x.e) b))
 else if x.op=5 then(if y'j c x=z'3 u row x.e then y'N (y'2 c i row x (y'j c x)) x.loc.toNat (z'3 u row x.f)else y'2 c i row x (y'j c x))
 else if x.op=6 then y'N (y'2 c i row x (y'j c x)) x.loc.toNat ((y'j c x+z'3 u row x.e).tmod u.md)
 else if x.op=7 then y'N (y'2 c i row x (y'j c x)) x.loc.toNat (z'3 u row x.e)
 else c
abbrev Zbf (f:Nat) (bd:Nat) (u:Un) (q:OC) (c:Cf) (m r:Int) (i:Nat) (x:Ins) (c2:Cf):Prop:=
 Fun Tryz.prog f [pD bd] (dW bd u q c m r (i:Nat) x) false (fun d H'=> ∃q':OC,q'.ok c2∧d= .tup []∧H'=dW bd u q' c2 m r (i:Nat) x)
section
variable (bd : Nat) (u : Un) (q : OC) (c : Cf) (hq : q.ok c) (m r : Int) (i : Nat) (x : Ins) (row : List Int) (b : List En) (h : Fit u c i x row b)
include hq h
theorem ZjK (ho:x.op=2):Zbf 156 bd u q c m r i x (y'2 c i row x (z'3 u row x.e)):=by
 have c1:=v'I u c m r i x row h.reg x.e h.e (h.okc.row row (z'h h.reg))
 have c2:=Zek bd u q c hq m r i x row h.reg (h.r (.inl ho)) (z'3 u row x.e)
 have hfz:=ZbR (bd:=bd) (u:=u) (m:=m) (r:=r) (t:=(i:Nat)) (x:=x) hq (z'S x.e)
 refine Fun.of T [] Tryz.func156 rfl Tryz.ntmps156 Tryz.results156 rfl (by kernel_rfl) ?_
 show VC _ _ _ ⟨_,(bd,.cells 202 18 (doO u q c m r (i:Nat) x))::q.h c []⟩ _
 repeat' first|refine vs T rfl fun K hK=>?_;(try simp (disch:=omega) only[go_sem,Nat.reduceBEq,Nat.reduceAdd]);(first|refine hK _ _ ?_;clear hK K|refine Op1.lend rfl rfl (c1) (hfz) (.inr rfl) ?_;refine hK _ _ ?_;clear hK K|refine Op1.cally (Hr:=[]) rfl rfl (c2) rfl (by rw[z'x];exact y'K _) (fun q hq=>?_);refine hK _ _ ?_;clear hK K)|refine st rfl ?_|refine nl ?_
 exact ZaP T rfl (z'p _) ⟨q,hq,rfl,by first|exact z'x _|rfl⟩
theorem ZnY (ho:x.op=3):Zbf 157 bd u q c m r i x (y'2 c i row x (x'u c (i:Nat) x.loc)):=by
 have c1:=Zh8 c h.okc.buf (i:Nat) x.loc
 have c2:=Zek bd u q c hq m r i x row h.reg (h.r (.inr (.inl ho))) (x'u c (i:Nat) x.loc)
 have hfz:=Zo3 (bd:=bd) (u:=u) (m:=m) (r:=r) (t:=(i:Nat)) (x:=x) hq (iD (i:Nat)) (iD x.loc)
 refine Fun.of T [] Tryz.func157 rfl Tryz.ntmps157 Tryz.results157 rfl (by kernel_rfl) ?_
 show VC _ _ _ ⟨_,(bd,.cells 202 18 (doO u q c m r (i:Nat) x))::q.h c []⟩ _
 repeat' first|refine dr (id:=0) T 15 (by kernel_rfl) ?_|refine gn ?_|apply VCg.step T rfl rfl;focus((try simp (disch:=omega) only[go_sem,Nat.reduceBEq,Nat.reduceAdd,Nat.reduceLeDiff]);(first|exact rfl|refine Op1.lend rfl rfl (c1) (hfz) (.inr rfl) ?_;exact⟨rfl,rfl⟩))|refine vs T rfl fun K hK=>?_;(try simp (disch:=omega) only[go_sem]);(refine Op1.cally (Hr:=[]) rfl rfl (c2) rfl (by rw[z'x];exact y'K _) (fun q hq=>?_);refine hK _ _ ?_;clear hK K)|refine nl ?_
 exact ZaP T rfl (z'p _) ⟨q,hq,rfl,by first|exact z'x _|rfl⟩
theorem Zm7 (ho:x.op=4) (hm:(m == 1)=true):Zbf 158 bd u q c m r i x (y'N c x.loc.toNat (z'3 u row x.e)):=by
 have c1:=v'I u c m r i x row h.reg x.e h.e (h.okc.row row (z'h h.reg))
 have c2:=ZdN bd u q c hq m r (i:Nat) x (h.l (.inl ho)) (z'3 u row x.e)
 have hfz:=ZbR (bd:=bd) (u:=u) (m:=m) (r:=r) (t:=(i:Nat)) (x:=x) hq (z'S x.e)
 refine Fun.of T [] Tryz.func158 rfl Tryz.ntmps158 Tryz.results158 rfl (by kernel_rfl) ?_
 show VC _ _ _ ⟨_,(bd,.cells 202 18 (doO u q c m r (i:Nat) x))::q.h c []⟩ _
 repeat' first|refine vs T rfl fun K hK=>?_;(try simp (disch:=omega) only[go_sem,Nat.reduceBEq,Nat.reduceAdd,hm]);(first|refine hK _ _ ?_;clear hK K|refine Op1.lend rfl rfl (c1) (hfz) (.inr rfl) ?_;refine hK _ _ ?_;clear hK K|refine Op1.cally (Hr:=[]) rfl rfl (c2) rfl (by rw[z'x];exact y'K _) (fun q hq=>?_);refine hK _ _ ?_;clear hK K)|refine st rfl ?_|refine sc rfl ?_|refine nl ?_
 exact ZaP T rfl (z'p _) ⟨q,hq,rfl,by first|exact z'x _|rfl⟩
theorem ZnS:Zbf 159 bd u q c m r i x (setP c i x.to):=by
 have c2:=Zge bd u q c hq m r i h.pc x x.to
 refine Fun.of T [] Tryz.func159 rfl Tryz.ntmps159 Tryz.results159 rfl (by kernel_rfl) ?_
 show VC _ _ _ ⟨_,(bd,.cells 202 18 (doO u q c m r (i:Nat) x))::q.h c []⟩ _
 repeat' first|refine vs T rfl fun K hK=>?_;(try simp (disch:=omega) only[go_sem,Nat.reduceBEq,Nat.reduceAdd]);(first|refine hK _ _ ?_;clear hK K|refine Op1.cally (Hr:=[]) rfl rfl (c2) rfl (by rw[z'x];exact y'K _) (fun q hq=>?_);refine hK _ _ ?_;clear hK K)|refine st rfl ?_|refine nl ?_
 exact ZaP T rfl (z'p _) ⟨q,hq,rfl,by first|exact z'x _|rfl⟩
theorem Zkp:Zbf 160 bd u q c m r i x (if z'3 u row x.e=0 then setP c i x.to else c):=by
 have c1:=v'I u c m r i x row h.reg x.e h.e (h.okc.row row (z'h h.reg))
 have c2:=Zge bd u q c hq m r i h.pc x x.to
 have hfz:=ZbR (bd:=bd) (u:=u) (m:=m) (r:=r) (t:=(i:Nat)) (x:=x) hq (z'S x.e)
 refine Fun.of T [] Tryz.func160 rfl Tryz.ntmps160 Tryz.results160 rfl (by kernel_rfl) ?_
 show VC _ _ _ ⟨_,(bd,.cells 202 18 (doO u q c m r (i:Nat) x))::q.h c []⟩ _
 by_cases h0:z'3 u row x.e=0
 ·have e0:(z'3 u row x.e == 0)=true:=by simpa using h0
  rw[if_pos h0]
  repeat' first|refine vs T rfl fun K hK=>?_;(try simp (disch:=omega) only[go_sem,Nat.reduceBEq,Nat.reduceAdd,e0]);(first|refine hK _ _ ?_;clear hK K|refine Op1.lend rfl rfl (c1) (hfz) (.inr rfl) ?_;refine hK _ _ ?_;clear hK K|refine Op1.cally (Hr:=[]) rfl rfl (c2) rfl (by rw[z'x];exact y'K _) (fun q hq=>?_);refine hK _ _ ?_;clear hK K)|refine st rfl ?_|refine sc rfl ?_|refine nl ?_
  exact ZaP T rfl (z'p _) ⟨q,hq,rfl,by first|exact z'x _|rfl⟩
 ·have e0:(z'3 u row x.e == 0)=false:=by simpa using h0
  rw[if_neg h0]
  repeat' first|refine vs T rfl fun K hK=>?_;(try simp (disch:=omega) only[go_sem,Nat.reduceBEq,Nat.reduceAdd,e0]);(first|refine hK _ _ ?_;clear hK K|refine Op1.lend rfl rfl (c1) (hfz) (.inr rfl) ?_;refine hK _ _ ?_;clear hK K)|refine st rfl ?_|refine sc rfl ?_|refine nl ?_
  exact ZaP T rfl (z'p _) ⟨q,hq,rfl,rfl⟩
theorem Ziy (ho:x.op=7):Zbf 163 bd u q c m r i x (y'N (y'2 c i row x (y'j c x)) x.loc.toNat (z'3 u row x.e)):=by
 have c1:=v'I u c m r i x row h.reg x.e h.e (h.okc.row row (z'h h.reg))
 have c0:=ZhR u c m r (i:Nat) x (h.l (.inr (.inr (.inr ho))))
 have c2:=Zek bd u q c hq m r i x row h.reg (h.r (.inr (.inr (.inr (.inr ho))))) (y'j c x)
 have c3:=fun(q2:OC) (h2:q2.ok (y'2 c i row x (y'j c x)))=>ZdN bd u q2 (y'2 c i row x (y'j c x)) h2 m r (i:Nat) x (h.l (.inr (.inr (.inr ho)))) (z'3 u row x.e)
 have hfz:=ZbR (bd:=bd) (u:=u) (m:=m) (r:=r) (t:=(i:Nat)) (x:=x) hq (z'S x.e)
 have hfz0:=Zfy (bd:=bd) (u:=u) (m:=m) (r:=r) (t:=(i:Nat)) (x:=x) hq
 refine Fun.of T [] Tryz.func163 rfl Tryz.ntmps163 Tryz.results163 rfl (by kernel_rfl) ?_
 show VC _ _ _ ⟨_,(bd,.cells 202 18 (doO u q c m r (i:Nat) x))::q.h c []⟩ _
 repeat' first|refine dr (id:=0) T 8 (by kernel_rfl) ?_|refine gn ?_|apply VCg.step T rfl rfl;focus((try simp (disch:=omega) only[go_sem,Nat.reduceBEq,Nat.reduceAdd]);(first|exact rfl|refine Op1.lend rfl rfl (c0) (hfz0) (.inr rfl) ?_;exact⟨rfl,rfl⟩))|refine vs T rfl fun K hK=>?_;(try simp (disch:=omega) only[go_sem,Nat.reduceBEq]);(first|refine hK _ _ ?_;clear hK K|refine Op1.lend rfl rfl (c1) (hfz) (.inr rfl) ?_;refine hK _ _ ?_;clear hK K|refine Op1.cally (Hr:=[]) rfl rfl (c2) rfl (by rw[z'x];exact y'K _) (fun q hq=>?_);refine hK _ _ ?_;clear hK K|refine Op1.cally (Hr:=[]) rfl rfl (c3 q hq) rfl (by rw[z'x];exact y'K _) (fun q hq=>?_);refine hK _ _ ?_;clear hK K)|refine st rfl ?_|refine nl ?_
 exact ZaP T rfl (z'p _) ⟨q,hq,rfl,by first|exact z'x _|rfl⟩
theorem ZoX (ho:x.op=6):Zbf 162 bd u q c m r i x (y'N (y'2 c i row x (y'j c x)) x.loc.toNat ((y'j c x+z'3 u row x.e).tmod u.md)):=by
 have c1:=v'I u c m r i x row h.reg x.e h.e (h.okc.row row (z'h h.reg))
 have c0:=ZhR u c m r (i:Nat) x (h.l (.inr (.inr (.inl ho))))
 have c2:=Zek bd u q c hq m r i x row h.reg (h.r (.inr (.inr (.inr (.inl ho))))) (y'j c x)
 have c3:=fun(q2:OC) (h2:q2.ok (y'2 c i row x (y'j c x)))=>ZdN bd u q2 (y'2 c i row x (y'j c x)) h2 m r (i:Nat) x (h.l (.inr (.inr (.inl ho)))) ((y'j c x+z'3 u row x.e).tmod u.md)
 have hfz:=ZbR (bd:=bd) (u:=u) (m:=m) (r:=r) (t:=(i:Nat)) (x:=x) hq (z'S x.e)
 have hfz0:=Zfy (bd:=bd) (u:=u) (m:=m) (r:=r) (t:=(i:Nat)) (x:=x) hq
 have hb:=Zi8 h
 have hv:=h.v
 have hw:IntKind.i64.wrap (y'j c x+z'3 u row x.e)=y'j c x+z'3 u row x.e:=by rw[w64 (by omega)]
 have hmd:=h.md
 refine Fun.of T [] Tryz.func162 rfl Tryz.ntmps162 Tryz.results162 rfl (by kernel_rfl) ?_
 show VC _ _ _ ⟨_,(bd,.cells 202 18 (doO u q c m r (i:Nat) x))::q.h c []⟩ _
 repeat' first|refine dr (id:=0) T 8 (by kernel_rfl) ?_|refine gn ?_|apply VCg.step T rfl rfl;focus((try simp (disch:=omega) only[go_sem,Nat.reduceBEq,Nat.reduceAdd]);(first|exact rfl|refine Op1.lend rfl rfl (c0) (hfz0) (.inr rfl) ?_;exact⟨rfl,rfl⟩))|refine vs T rfl fun K hK=>?_;(try simp (disch:=omega) only[go_sem,Nat.reduceBEq,dW,hw,hmd,ne_eq,not_false_eq_true]);(first|refine hK _ _ ?_;clear hK K|refine Op1.lend rfl rfl (c1) (hfz) (.inr rfl) ?_;refine hK _ _ ?_;clear hK K|refine Op1.cally (Hr:=[]) rfl rfl (c2) rfl (by rw[z'x];exact y'K _) (fun q hq=>?_);refine hK _ _ ?_;clear hK K|refine Op1.cally (Hr:=[]) rfl rfl (c3 q hq) rfl (by rw[z'x];exact y'K _) (fun q hq=>?_);refine hK _ _ ?_;clear hK K)|refine st rfl ?_|refine nl ?_
 exact ZaP T rfl (z'p _) ⟨q,hq,rfl,by first|exact z'x _|rfl⟩
theorem ZoK (ho:x.op=5):Zbf 161 bd u q c m r i x (if y'j c x=z'3 u row x.e then y'N (y'2 c i row x (y'j c x)) x.loc.toNat (z'3 u row x.f)else y'2 c i row x (y'j c x)):=by
 have c1:=v'I u c m r i x row h.reg x.e h.e (h.okc.row row (z'h h.reg))
 have c1f:=v'I u c m r i x row h.reg x.f h.f (h.okc.row row (z'h h.reg))
 have c0:=ZhR u c m r (i:Nat) x (h.l (.inr (.inl ho)))
 have c2:=Zek bd u q c hq m r i x row h.reg (h.r (.inr (.inr (.inl ho)))) (y'j c x)
 have c3:=fun(q2:OC) (h2:q2.ok (y'2 c i row x (y'j c x)))=>ZdN bd u q2 (y'2 c i row x (y'j c x)) h2 m r (i:Nat) x (h.l (.inr (.inl ho))) (z'3 u row x.f)
 have hfz:=ZbR (bd:=bd) (u:=u) (m:=m) (r:=r) (t:=(i:Nat)) (x:=x) hq (z'S x.e)
 have hfzf:=ZbR (bd:=bd) (u:=u) (m:=m) (r:=r) (t:=(i:Nat)) (x:=x) hq (z'S x.f)
 have hfz0:=Zfy (bd:=bd) (u:=u) (m:=m) (r:=r) (t:=(i:Nat)) (x:=x) hq
 refine Fun.of T [] Tryz.func161 rfl Tryz.ntmps161 Tryz.results161 rfl (by kernel_rfl) ?_
 show VC _ _ _ ⟨_,(bd,.cells 202 18 (doO u q c m r (i:Nat) x))::q.h c []⟩ _
 by_cases h0:y'j c x=z'3 u row x.e
 ·have e0:(y'j c x == z'3 u row x.e)=true:=by simpa using h0
  rw[if_pos h0]
  repeat' first|refine dr (id:=0) T 15 (by kernel_rfl) ?_|refine gn ?_|apply VCg.step T rfl rfl;focus((try simp (disch:=omega) only[go_sem,Nat.reduceBEq,Nat.reduceAdd]);(first|exact rfl|refine Op1.lend rfl rfl (c0) (hfz0) (.inr rfl) ?_;exact⟨rfl,rfl⟩|refine Op1.lend rfl rfl (c1) (hfz) (.inr rfl) ?_;exact⟨rfl,rfl⟩))|refine vs T rfl fun K hK=>?_;(try simp (disch:=omega) only[go_sem,Nat.reduceBEq,e0]);(first|refine hK _ _ ?_;clear hK K|refine Op1.lend rfl rfl (c1f) (hfzf) (.inr rfl) ?_;refine hK _ _ ?_;clear hK K|refine Op1.cally (Hr:=[]) rfl rfl (c2) rfl (by rw[z'x];exact y'K _) (fun q hq=>?_);refine hK _ _ ?_;clear hK K|refine Op1.cally (Hr:=[]) rfl rfl (c3 q hq) rfl (by rw[z'x];exact y'K _) (fun q hq=>?_);refine hK _ _ ?_;clear hK K)|refine st rfl ?_|refine sc rfl ?_|refine nl ?_
  exact ZaP T rfl (z'p _) ⟨q,hq,rfl,by first|exact z'x _|rfl⟩
 ·have e0:(y'j c x == z'3 u row x.e)=false:=by simpa using h0
  rw[if_neg h0]
  repeat' first|refine dr (id:=0) T 15 (by kernel_rfl) ?_|refine gn ?_|apply VCg.step T rfl rfl;focus((try simp (disch:=omega) only[go_sem,Nat.reduceBEq,Nat.reduceAdd]);(first|exact rfl|refine Op1.lend rfl rfl (c0) (hfz0) (.inr rfl) ?_;exact⟨rfl,rfl⟩|refine Op1.lend rfl rfl (c1) (hfz) (.inr rfl) ?_;exact⟨rfl,rfl⟩))|refine vs T rfl fun K hK=>?_;(try simp (disch:=omega) only[go_sem,Nat.reduceBEq,e0]);(first|refine hK _ _ ?_;clear hK K|refine Op1.lend rfl rfl (c1f) (hfzf) (.inr rfl) ?_;refine hK _ _ ?_;clear hK K|refine Op1.cally (Hr:=[]) rfl rfl (c2) rfl (by rw[z'x];exact y'K _) (fun q hq=>?_);refine hK _ _ ?_;clear hK K)|refine st rfl ?_|refine sc rfl ?_|refine nl ?_
  exact ZaP T rfl (z'p _) ⟨q,hq,rfl,by first|exact z'x _|rfl⟩
end
theorem VCd.weak {P:Program} {n j:Nat} {ops:Array Oper} {s s':St} {Q:Exit→St→Prop} (h:Weak s s') (hv:VCd P n ops j s' Q):VCd P n ops j s Q:=fun x a w listed hn hs=>hv x a w listed hn (h x a w hs)
theorem VCd.nodup {P:Program} {n j:Nat} {ops:Array Oper} {s:St} {Q:Exit→St→Prop} (h:s.heap.blocks.Nodup→VCd P n ops j s Q):VCd P n ops j s Q:=fun x a w listed hn hs=>h hs.inv.nodup x a w listed hn hs
theorem VCo.nodup {P:Program} {n:Nat} {ops:Array Oper} {l:List Oper} {s:St} {Q:Exit→St→Prop} (h:s.heap.blocks.Nodup→VCo P n ops l s Q):VCo P n ops l s Q:=fun x a w hn hs=>h hs.inv.nodup x a w hn hs
theorem ZoZ (u:Un) (q:OC) (c:Cf) (hq:q.ok c) (m r:Int) (i:Nat) (x:Ins) (hx:AtX u c i x):Fun Tryz.prog 154 [.agg (unC u),.agg (q.cs c),iD m,iD r,iD (i:Nat)] (q.h c []) false
  (fun d H'=> ∃bd:Nat,True∧d= .tup [pD bd,bD true]∧H'=dW bd u q c m r (i:Nat) x):=by
 obtain⟨rw,p,h1,h2,h3,h4⟩:=hx.pc
 obtain⟨k,rfl⟩: ∃k:Nat,p=(k:Int):=⟨p.toNat,by omega⟩
 rw[z'f]at h4
 have l1:=(z'c.1 h1).1
 have l2:=(z'c.1 h2).1
 have l4:=(z'c.1 h4).1
 have r2:(x'9 u.code)[i]?=some [.sl false 7 (y'P rw)]:=by rw[x'O,h2];rfl
 have r4:(y'P rw)[k]?=some [iD x.op,iD x.reg,iD x.loc,z'S x.e,z'S x.f,bD x.ne,iD x.to]:=by rw[x'Q,h4];rfl
 have e1:decide ((i:Int)<0)=false:=by simp
 have e2:decide ((i:Int)≥(c.pc.length:Int))=false:=by simp;omega
 obtain⟨gp,gr,gm,gb,rs⟩:=q
 rcases gp with _|⟨b,cap⟩
 ·have h0:c.pc.length=0:=hq.pc
  omega
 refine Fun.of T [.tmp 10,.tmp 11] Tryz.func154 rfl Tryz.ntmps154 Tryz.results154 rfl (by kernel_rfl) ?_
 show VC _ _ _ ⟨Ze2 [.agg (unC u),.agg [.gs (some (b,cap)) c.pc.length,.gs gr c.regs.length,.gs gm c.mem.length,.gs gb c.bufs.length],iD m,iD r,iD (i:Nat)] 0,(b,.cells 3 (cap*1) (c.pc.map iD))::shp gr 22 1 (rgC rs) (shp gm 3 1 (c.mem.map iD) (shp gb 117 1 (c.bufs.map buf) (rgH rs [])))⟩ _
 repeat' first|refine vb (t:=25) rfl rfl rfl rfl ?_|refine vb (t:=51) rfl rfl rfl rfl ?_|refine dr (id:=3) T 17 (by kernel_rfl) ?_|refine gn ?_|(apply VCg.step T rfl rfl);focus((try simp (disch:=omega) only[go_sem,Nat.reduceBEq,Nat.reduceAdd,Nat.reduceLeDiff,z'u,h1,r2,r4,z'Q,z'7]);(first|exact rfl|refine⟨?_,rfl⟩;try omega))|refine vs T rfl fun K hK=>?_;(try simp (disch:=omega) only[go_sem,Nat.reduceBEq,Nat.reduceAdd,e1,e2,z'u]);(first|refine hK _ _ ?_;clear hK K|intro bq hbq;(try simp only[HB]at hbq);refine hK _ _ ?_;clear hK K)|refine st rfl ?_|refine sc rfl ?_|refine nl ?_|refine gs rfl rfl ?_
 first|exact y'9 T (z'p _) ⟨bq,trivial,rfl,by simp[dW,OC.h,z'1]⟩|exact y'9 T (z'p _) ⟨bq,rfl,by simp[dW,OC.h,z'1]⟩
def fnX (op:Int):Option Nat:=if op=2 then some 156 else if op=3 then some 157 else if op=4 then some 158 else if op=20 then some 159
 else if op=21 then some 160 else if op=5 then some 161 else if op=6 then some 162 else if op=7 then some 163 else none
abbrev fV (f:Nat):Value:= .func (.func f) #[] #[]
def Zc0:List (Int×Value):=[(2,fV 156),(3,fV 157),(4,fV 158),(20,fV 159),(21,fV 160),(5,fV 161),(6,fV 162),(7,fV 163)]
theorem Zg3 (op:Int):ZaI op Zc0=(fnX op).map fV:=by
 unfold Zc0 fnX
 by_cases h2:op=2
 ·subst h2;rfl
 by_cases h3:op=3
 ·subst h3;rfl
 by_cases h4:op=4
 ·subst h4;rfl
 by_cases h20:op=20
 ·subst h20;rfl
 by_cases h21:op=21
 ·subst h21;rfl
 by_cases h5:op=5
 ·subst h5;rfl
 by_cases h6:op=6
 ·subst h6;rfl
 by_cases h7:op=7
 ·subst h7;rfl
 simp only[ZaI,h2,h3,h4,h20,h21,h5,h6,h7,if_false,beq_eq_false_iff_ne.2 h2,beq_eq_false_iff_ne.2 h3,beq_eq_false_iff_ne.2 h4,beq_eq_false_iff_ne.2 h20,beq_eq_false_iff_ne.2 h21,beq_eq_false_iff_ne.2 h5,beq_eq_false_iff_ne.2 h6,beq_eq_false_iff_ne.2 h7,cond_false]
 rfl
theorem ZnE {f:Nat} {bd:Nat} {u:Un} {q:OC} {c:Cf} (hq:q.ok c) {m r:Int} {i:Nat} {x:Ins} {row:List Int} {b:List En} (h:Fit u c i x row b) (hf:fnX x.op=some f):Zbf f bd u q c m r i x (y'R u c m i x row b):=by
 unfold fnX at hf
 unfold y'R
 by_cases h2:x.op=2
 ·rw[if_pos h2]at hf;cases hf
  simp only[h2,show ¬((2:Int)=20) by decide,show ¬((2:Int)=21) by decide,if_false,if_true]
  exact ZjK bd u q c hq m r i x row b h h2
 rw[if_neg h2]at hf
 by_cases h3:x.op=3
 ·rw[if_pos h3]at hf;cases hf
  simp only[h3,show ¬((3:Int)=20) by decide,show ¬((3:Int)=21) by decide,show ¬((3:Int)=2) by decide,if_false,if_true]
  exact ZnY bd u q c hq m r i x row b h h3
 rw[if_neg h3]at hf
 by_cases h4:x.op=4
 ·rw[if_pos h4]at hf;cases hf
  simp only[h4,show ¬((4:Int)=20) by decide,show ¬((4:Int)=21) by decide,show ¬((4:Int)=2) by decide,show ¬((4:Int)=3) by decide,if_false,if_true]
  by_cases hm:m=1
  ·rw[if_pos hm]
   exact Zm7 bd u q c hq m r i x row b h h4 (by simpa using hm)
  ·rw[if_neg hm]
   exact ZoQ bd u q c h.okc hq m r (by simpa using hm) i x h.e row h.reg b h.buf
 rw[if_neg h4]at hf
 by_cases h20:x.op=20
 ·rw[if_pos h20]at hf;cases hf
  rw[if_pos h20]
  exact ZnS bd u q c hq m r i x row b h
 rw[if_neg h20]at hf
 by_cases h21:x.op=21
 ·rw[if_pos h21]at hf;cases hf
  rw[if_neg h20,if_pos h21]
  exact Zkp bd u q c hq m r i x row b h
 rw[if_neg h21]at hf
 by_cases h5:x.op=5
 ·rw[if_pos h5]at hf;cases hf
  simp only[h5,show ¬((5:Int)=20) by decide,show ¬((5:Int)=21) by decide,show ¬((5:Int)=2) by decide,show ¬((5:Int)=3) by decide,show ¬((5:Int)=4) by decide,if_false,if_true]
  exact ZoK bd u q c hq m r i x row b h h5
 rw[if_neg h5]at hf
 by_cases h6:x.op=6
 ·rw[if_pos h6]at hf;cases hf
  simp only[h6,show ¬((6:Int)=20) by decide,show ¬((6:Int)=21) by decide,show ¬((6:Int)=2) by decide,show ¬((6:Int)=3) by decide,show ¬((6:Int)=4) by decide,show ¬((6:Int)=5) by decide,if_false,if_true]
  exact ZoX bd u q c hq m r i x row b h h6
 rw[if_neg h6]at hf
 by_cases h7:x.op=7
 ·rw[if_pos h7]at hf;cases hf
  simp only[h7,show ¬((7:Int)=20) by decide,show ¬((7:Int)=21) by decide,show ¬((7:Int)=2) by decide,show ¬((7:Int)=3) by decide,show ¬((7:Int)=4) by decide,show ¬((7:Int)=5) by decide,show ¬((7:Int)=6) by decide,if_false,if_true]
  exact Ziy bd u q c hq m r i x row b h h7
 rw[if_neg h7]at hf
 cases hf
theorem ZlR {u:Un} {c:Cf} {m:Int} {i:Nat} {x:Ins} {row:List Int} {b:List En} (hf:fnX x.op=none):y'R u c m i x row b=c:=by
 unfold fnX at hf
 unfold y'R
 repeat' split at hf
 all_goals first|cases hf|skip
 simp_all
theorem umX:Tryz.prog.underlying 204=some (.map 3 203):=by kernel_rfl
theorem zX:(Tryz.prog.info? 203).bind (·.zero)=some .nilFunc:=by kernel_rfl
theorem ZoW (u:Un) (c:Cf) (hc:OkC c) (m r:Int) (i:Nat) (x:Ins) (row:List Int) (b0:List En) (h:Thr u c i x row b0) (p:Nat) (hp:c.pc[i]?=some (p:Int)) (hpl:p≤100000) (hF:Fit u (setP c i ((p+1:Nat):Int)) i x row b0):
  Fun Tryz.prog 152 [.agg (unC u),.agg (cfC c),iD m,iD r,iD (i:Nat)] [] false
  (fun d H'=> ∃q:OC,q.ok (match enT u c m r (i:Nat)with|true=>y'R u (setP c i ((p+1:Nat):Int)) m i x row b0|false=>c)∧
   d= .tup [.agg (q.cs (match enT u c m r (i:Nat)with|true=>y'R u (setP c i ((p+1:Nat):Int)) m i x row b0|false=>c)),bD (enT u c m r (i:Nat))]∧
   H'=q.h (match enT u c m r (i:Nat)with|true=>y'R u (setP c i ((p+1:Nat):Int)) m i x row b0|false=>c) []):=by
 have hil:=(z'c.1 hp).1
 have cc:=Zes c hc
 have hw:IntKind.i64.wrap ((p:Int)+1)=((p+1:Nat):Int):=by rw[w64 (by omega)];omega
 have ce:=ZfC u c hc m r i x h.e row h.reg b0 h.buf
 rw[←ZfB h]at ce
 refine Fun.of T [.cell 10 51,.tmp 11] Tryz.func152 rfl Tryz.ntmps152 Tryz.results152 rfl (by kernel_rfl) ?_
 repeat' first|refine vb (t:=25) rfl rfl rfl rfl ?_|refine vb (t:=51) rfl rfl rfl rfl ?_|refine VC.drawS (id:=1) (by kernel_rfl) ?_|refine VCd.group T (s:=0) 6 11 rfl rfl (by kernel_rfl) (by kernel_rfl) (by kernel_rfl) ?_;(try simp only[y'o,Nat.reduceSub])|refine VCg.nil T ?_;simp only[y'4,WB]|apply VCg.step T rfl rfl;focus((try simp (disch:=omega) only[go_sem,Nat.reduceBEq,Nat.reduceAdd,Nat.reduceLeDiff]);(exact rfl))|refine VCg.ownx T rfl rfl rfl rfl (cc) rfl ?_|refine vs T rfl fun K hK=>?_;(try simp (disch:=omega) only[go_sem,Nat.reduceAdd]);(first|refine hK _ _ ?_;clear hK K|intro bq hbq;(try simp only[HB]at hbq);refine hK _ _ ?_;clear hK K)|refine st rfl ?_|refine nl ?_
 rintro _ _ ⟨q,hq,rfl,rfl⟩ hap
 obtain⟨gp,gr,gm,gb,rs⟩:=q
 rcases gp with _|⟨b,cap⟩
 ·have h0:c.pc.length=0:=hq.pc
  omega
 refine VCd.one rfl (by decide) (by kernel_rfl) rfl rfl (fun K hK=>?_)
 refine Op1.cally (Hr:=[(bq,.cells 51 4 [.gs none 0,.gs none 0,.gs none 0,.gs none 0])]) rfl rfl (ZoZ u _ c hq m r i x h.at_) rfl (y'K _) (fun bd _=>?_)
 refine hK _ _ ?_
 clear hK K
 show VCd _ _ _ _ ⟨upd _ 24 (.tup [pD bd,bD true]),_⟩ _
 refine VCd.weak (Weak.perm (H':=(bq,.cells 51 4 [.gs none 0,.gs none 0,.gs none 0,.gs none 0])::dW bd u ⟨some (b,cap),gr,gm,gb,rs⟩ c m r (i:Nat) x) (y'b fun a=>by simp only[z'V,z'6,y'a];omega)) ?_
 refine VCd.nodup fun hn=>?_
 have n1: ¬bq=bd:=fun h=>by subst h;simp[Heap.blocks,dW]at hn
 have n2: ¬bq=b:=fun h=>by subst h;simp[Heap.blocks,dW,OC.h,z'1]at hn
 have n3: ¬bd=b:=fun h=>by subst h;simp[Heap.blocks,dW,OC.h,z'1]at hn
 have hfz:=FzL.sub (H':=(bq,.cells 51 4 [.gs none 0,.gs none 0,.gs none 0,.gs none 0])::dW bd u ⟨some (b,cap),gr,gm,gb,rs⟩ c m r (i:Nat) x) (fun y hy=>z'd _ hy) (Zfy (bd:=bd) (u:=u) (m:=m) (r:=r) (t:=(i:Nat)) (x:=x) hq)
 cases hen:enT u c m r (i:Nat)with
 |false=>
  rw[hen]at ce
  repeat' first|refine VCd.tail (f:=11) (by kernel_rfl) ?_;(try simp only[y'I,y'o])|refine VCd.group T (s:=7) 11 11 rfl rfl (by kernel_rfl) (by kernel_rfl) (by kernel_rfl) ?_;(try simp only[y'I,y'o,Nat.reduceSub])|refine gn ?_|apply VCg.step T rfl rfl;focus((try simp (disch:=omega) only[go_sem,Nat.reduceBEq,dW]);(exact rfl))|refine vs T rfl fun K hK=>?_;(try simp (disch:=omega) only[go_sem,Nat.reduceBEq,Nat.reduceAdd,Nat.reduceLeDiff,dW,z'l,z'r]);(first|refine hK _ _ ?_;clear hK K|refine Op1.lend rfl rfl (ce) (hfz) (.inr rfl) ?_;refine hK _ _ ?_;clear hK K)|refine st rfl ?_|refine sc rfl ?_|refine nl ?_|refine ov ?_
  exact x'g T rfl (by(try simp (disch:=omega) only[hget_ne,hget_eq]);rfl) rfl rfl rfl ((z'5 _ _).trans (z'5 _ _)) ⟨⟨some (b,cap),gr,gm,gb,rs⟩,hq,rfl,rfl⟩
 |true=>
  rw[hen]at ce
  show VCd _ _ _ _ ⟨_,(bq,_)::(bd,.cells _ 18 (doO u ⟨some (b,cap),gr,gm,gb,rs⟩ c m r (i:Nat) x))::(b,.cells 3 (cap*1) (c.pc.map iD))::shp gr 22 1 (rgC rs) (shp gm 3 1 (c.mem.map iD) (shp gb 117 1 (c.bufs.map buf) (rgH rs [])))⟩ _
  have hp1:c.pc[i*1]?=some (p:Int):=by rw[z'u];exact hp
  repeat' first|refine vt rfl fun K hK=>?_;refine ZgO rfl umX (fun x hx=>(by cases hx)) (fun bq hbq=>?_);(try simp only[HB]at hbq);refine hK _ _ ?_;clear hK K;(try simp only[updO])|refine vt rfl fun K hK=>?_;refine Zh6 (by exact .inr rfl) umX Tryz.underlying3 rfl rfl rfl (by(try simp (disch:=omega) only[hget_eq]);rfl) (by rfl) ?_;refine hK _ _ ?_;clear hK K;(try simp (disch:=omega) only[updO,hset_eq,z'T,y'i])|refine VCd.tail (f:=11) (by kernel_rfl) ?_;(try simp only[y'I,y'o])|refine VCd.group T (s:=7) 11 11 rfl rfl (by kernel_rfl) (by kernel_rfl) (by kernel_rfl) ?_;(try simp only[y'I,y'o,Nat.reduceSub])|refine gn ?_|apply VCg.step T rfl rfl;focus((try simp (disch:=omega) only[go_sem,Nat.reduceBEq]);(exact rfl))|refine vs T rfl fun K hK=>?_;(try simp (disch:=omega) only[go_sem,Nat.reduceBEq,hp1,hw,z'l]);(first|refine hK _ _ ?_;clear hK K|refine⟨?_,hK _ _ ?_⟩<;>clear hK K;focus(try omega)|refine Op1.lend rfl rfl (ce) (hfz) (.inr rfl) ?_;refine hK _ _ ?_;clear hK K|skip)|refine st rfl ?_|refine sc rfl ?_|refine nl ?_|refine ov ?_
  rename_i bc hbc hx0
  refine Op1.cally (Hr:=[(bq,.obj (w'Y Zc0)),(bc,.cells 51 4 [.gs none 0,.gs none 0,.gs none 0,.gs none 0])]) rfl rfl (Zge bd u _ c hq m r i hil x ((p+1:Nat):Int)) rfl (y'b fun a=>by simp only[Zc0,fV,dW,doO,OC.h,z'1,y'f,y'G,z'V,z'6,y'a];omega) (fun q1 hq1=>?_)
  refine hK _ _ ?_
  clear hK K
  try simp only[updO]
  refine vo ?_
  refine VCo.weak (Weak.perm (H':=(bq,.obj (w'Y Zc0))::(bc,.cells 51 4 [.gs none 0,.gs none 0,.gs none 0,.gs none 0])::dW bd u q1 (setP c i ((p+1:Nat):Int)) m r (i:Nat) x) (y'b fun a=>by simp only[Zc0,fV,dW,doO,OC.h,z'1,y'f,y'G,z'V,z'6,y'a];omega)) ?_
  refine VCo.nodup fun hn2=>?_
  have n4: ¬bq=bd:=fun h=>by subst h;simp[Heap.blocks,dW]at hn2
  have n5: ¬bc=bd:=fun h=>by subst h;simp[Heap.blocks,dW]at hn2
  have n6: ¬bq=bc:=fun h=>by subst h;simp[Heap.blocks,dW]at hn2
  repeat' first|refine vs T rfl fun K hK=>?_;(try simp (disch:=omega) only[go_sem,Nat.reduceBEq,dW]);(first|refine hK _ _ ?_;clear hK K|skip)|refine st rfl ?_|refine nl ?_|refine ov ?_
  cases hf:fnX x.op with
  |none=>
   refine Zgl rfl umX Tryz.underlying3 zX rfl rfl hget_eq (r:=(.nilFunc,false)) (by rw[Zg3,hf];rfl) (fun cs h=>by cases h) ?_
   refine hK _ _ ?_
   clear hK K
   try simp only[updO]
   rw[ZlR hf]
   repeat' first|refine vs T rfl fun K hK=>?_;(try simp (disch:=omega) only[go_sem,Nat.reduceBEq,Nat.reduceAdd,Nat.reduceLeDiff,Zfo]);(refine hK _ _ ?_;clear hK K)|refine st rfl ?_|refine sc rfl ?_|refine nl ?_
   exact x'g T rfl (by(try simp (disch:=omega) only[hget_ne,hget_eq]);rfl) rfl rfl rfl ((z'5 _ _).trans ((z'5 _ _).trans (z'5 _ _))) ⟨q1,hq1,rfl,rfl⟩
  |some f=>
   refine Zgl rfl umX Tryz.underlying3 zX rfl rfl hget_eq (r:=(fV f,true)) (by rw[Zg3,hf];rfl) (fun cs h=>by cases h) ?_
   refine hK _ _ ?_
   clear hK K
   try simp only[updO]
   repeat' first|refine vs T rfl fun K hK=>?_;(try simp (disch:=omega) only[go_sem,Nat.reduceBEq,Zfo]);(first|refine hK _ _ ?_;clear hK K|skip)|refine st rfl ?_|refine sc rfl ?_|refine nl ?_
   refine Op1.cally (Hr:=[(bq,.obj (w'Y Zc0)),(bc,.cells 51 4 [.gs none 0,.gs none 0,.gs none 0,.gs none 0])]) rfl rfl (ZnE (m:=m) (r:=r) hq1 hF hf) rfl (y'b fun a=>by simp only[Zc0,fV,dW,doO,OC.h,z'1,y'f,y'G,z'V,z'6,y'a];omega) (fun q2 hq2=>?_)
   refine hK _ _ ?_
   clear hK K
   try simp only[updO]
   refine vo ?_
   refine VCo.weak (Weak.perm (H':=(bq,.obj (w'Y Zc0))::(bc,.cells 51 4 [.gs none 0,.gs none 0,.gs none 0,.gs none 0])::dW bd u q2 (y'R u (setP c i ((p+1:Nat):Int)) m i x row b0) m r (i:Nat) x) (y'b fun a=>by simp only[Zc0,fV,dW,doO,OC.h,z'1,y'f,y'G,z'V,z'6,y'a];omega)) ?_
   repeat' first|refine vs T rfl fun K hK=>?_;(try simp (disch:=omega) only[go_sem,Nat.reduceBEq,Nat.reduceAdd,Nat.reduceLeDiff,dW]);(refine hK _ _ ?_;clear hK K)|refine st rfl ?_|refine nl ?_|refine ov ?_
   exact x'g T rfl (by(try simp (disch:=omega) only[hget_ne,hget_eq]);rfl) rfl rfl rfl ((z'5 _ _).trans ((z'5 _ _).trans (z'5 _ _))) ⟨q2,hq2,rfl,rfl⟩
def w'3 (c:Cf) (m t loc:Int):Cf:=match x'H c m t loc with
 |true=>y'N (x'v c t.toNat (y'T m loc (c.bufs.getD t.toNat [])).1) (y'T m loc (c.bufs.getD t.toNat [])).2.1.1.toNat (y'T m loc (c.bufs.getD t.toNat [])).2.1.2
 |false=>c
def Zhl (c:Cf):Prop:= ∀b,b∈c.bufs→ ∀e,e∈b→0≤e.1∧e.1<c.mem.length
theorem Zgk {m loc:Int} {b:List En} (h:(y'T m loc b).2.2=true):(y'T m loc b).2.1∈b:=by
 unfold y'T at h⊢
 cases hn:z'U m loc b with
 |none=>rw[hn]at h;cases h
 |some k=>
  have hk:=ZbC hn
  simp only
  rw[z'b hk]
  exact List.getElem_mem hk
theorem cfz {q:OC} {c:Cf} (h:q.ok c) {H:Heap} (hm: ∀y,y∈q.h c []→y∈H) (v:Bool):Fz H (.tup [.agg (cfC c),bD v]) (.tup [.agg (q.cs c),bD v]):=
 ⟨_,rfl,z't ⟨_,rfl,OC.fzL (X:=[]) h hm⟩ (FzL.refl _ _)⟩
theorem Zma (c:Cf) (hc:OkC c) (hin:Zhl c) (m t loc:Int):Pure Tryz.prog 181 [.agg (cfC c),iD m,iD t,iD loc] (.tup [.agg (cfC (w'3 c m t loc)),bD (x'H c m t loc)]):=by
 have cc:=Zes c hc
 have cf:=ZfF c hc.buf m t loc
 refine Fun.fz ?_
 refine Fun.of T [.cell 8 51,.tmp 9] Tryz.func181 rfl Tryz.ntmps181 Tryz.results181 rfl (by kernel_rfl) ?_
 repeat' first|refine vb (t:=51) rfl rfl rfl rfl ?_|refine vs T rfl fun K hK=>?_;(try simp (disch:=omega) only[go_sem,Nat.reduceBEq,Nat.reduceAdd,Nat.reduceLeDiff]);(first|refine hK _ _ ?_;clear hK K|intro bq hbq;(try simp only[HB]at hbq);refine hK _ _ ?_;clear hK K|skip)|refine st rfl ?_|refine nl ?_
 refine Op1.callx rfl rfl cc rfl (fun q hq=>?_)
 refine hK _ _ ?_
 clear hK K
 refine vo ?_
 refine VCo.weak (Weak.perm (H':=(bq,.cells 51 4 [.gs none 0,.gs none 0,.gs none 0,.gs none 0])::q.h c []) (y'b fun a=>by simp only[z'V,z'6,y'a];omega)) ?_
 revert bq
 intro b8
 cases hfl:x'H c m t loc with
 |false=>
  rw[hfl]at cf
  have hfc:w'3 c m t loc=c:=by simp[w'3,hfl]
  rw[hfc]
  repeat' first|refine vs T rfl fun K hK=>?_;(try simp (disch:=omega) only[go_sem,Nat.reduceBEq,Nat.reduceAdd,Nat.reduceLeDiff,OC.cs,z'r]);(first|refine hK _ _ ?_;clear hK K|intro bq hbq;(try simp only[HB]at hbq);refine hK _ _ ?_;clear hK K|refine Op1.callp rfl rfl (cf) rfl ?_;refine hK _ _ ?_;clear hK K)|refine st rfl ?_|refine sc rfl ?_|refine nl ?_|refine ov ?_
  exact x'g T rfl (by(try simp (disch:=omega) only[hget_ne,hget_eq]);rfl) rfl rfl rfl (z'p _) (cfz hq (fun y hy=>z'd _ (z'd _ hy)) false)
 |true=>
  rw[hfl]at cf
  have ht0:0≤t:=by
   rcases Int.lt_or_le t 0 with h|h
   ·simp[x'H,y'e.2 h]at hfl
   ·exact h
  obtain⟨i,rfl⟩: ∃i:Nat,t=(i:Int):=⟨t.toNat,by omega⟩
  obtain⟨b,hb⟩: ∃b,c.bufs[i]?=some b:=by
   cases hb:c.bufs[i]? with
   |none=>simp[x'H,hb]at hfl
   |some b=>exact⟨b,rfl⟩
  have hil:=(z'c.1 hb).1
  have kb:=hc.buf b (z'h hb)
  have hp2:(y'T m loc b).2.2=true:=by simpa[x'H,hb]using hfl
  have hem:=hin b (z'h hb) _ (Zgk hp2)
  have rb:(y'Y c.bufs)[i]?=some [buf b]:=by rw[x'b,hb];rfl
  have cp:Pure Tryz.prog 183 [buf b,iD m,iD loc] (.tup [buf (y'T m loc b).1,.agg [iD (y'T m loc b).2.1.1,iD (y'T m loc b).2.1.2],bD (y'T m loc b).2.2]):=Zk9 b (by omega) m loc
  have hfc:w'3 c m (i:Nat) loc=y'N (x'v c i (y'T m loc b).1) (y'T m loc b).2.1.1.toNat (y'T m loc b).2.1.2:=by simp[w'3,hfl,z'e,hb]
  rw[hfc]
  have hq3:=OC.okM (OC.okB hq i (y'T m loc b).1) (y'T m loc b).2.1.1.toNat (y'T m loc b).2.1.2
  generalize (y'T m loc b)=pp at*
  obtain⟨b',⟨e1,e2⟩,is⟩:=pp
  simp only at hp2 hem cp hq3 hfc⊢
  obtain⟨gp,gr,gm,gb,rs⟩:=q
  rcases gb with _|⟨bb,capb⟩
  ·have h0:c.bufs.length=0:=hq.bufs
   omega
  rcases gm with _|⟨bm,capm⟩
  ·have h0:c.mem.length=0:=hq.mem
   omega
  refine VCo.weak (Weak.perm (H':=(b8,.cells 51 4 [.gs none 0,.gs none 0,.gs none 0,.gs none 0])::(bb,.cells 117 (capb*1) (c.bufs.map buf))::(bm,.cells 3 (capm*1) (c.mem.map iD))::shp gp 3 1 (c.pc.map iD) (shp gr 22 1 (rgC rs) (rgH rs []))) (y'b fun a=>by simp only[OC.h,z'1,y'f,y'G,z'V,z'6,y'a];omega)) ?_
  refine VCo.nodup fun hn=>?_
  have n1: ¬b8=bb:=fun h=>by subst h;simp[Heap.blocks]at hn
  have n2: ¬b8=bm:=fun h=>by subst h;simp[Heap.blocks]at hn
  have n3: ¬bb=bm:=fun h=>by subst h;simp[Heap.blocks]at hn
  repeat' first|refine VC.drawS (id:=5) (by kernel_rfl) ?_|refine vs T rfl fun K hK=>?_;(try simp (disch:=omega) only[go_sem,Nat.reduceBEq,Nat.reduceAdd,Nat.reduceLeDiff,OC.cs,z'l,rb,z'Z]);(first|refine hK _ _ ?_;clear hK K|intro bq hbq;(try simp only[HB]at hbq);refine hK _ _ ?_;clear hK K|refine⟨?_,hK _ _ ?_⟩<;>clear hK K;focus(try omega)|refine Op1.callp rfl rfl (cf) rfl ?_;refine hK _ _ ?_;clear hK K|refine Op1.callp rfl rfl (cp) rfl ?_;refine hK _ _ ?_;clear hK K)|refine st rfl ?_|refine sc rfl ?_|refine nl ?_|refine ov ?_
  rename_i hb8 b10 hb10
  have hpm:((OC.mk gp gr (some (bm,capm)) (some (bb,capb)) rs).h (y'N (x'v c i b') e1.toNat e2) []).Perm ((bb,.cells 117 (capb*1) ((c.bufs.map buf).set (i*1) (buf b')))::(bm,.cells 3 (capm*1) ((c.mem.map iD).set (e1.toNat*1) (iD e2)))::shp gp 3 1 (c.pc.map iD) (shp gr 22 1 (rgC rs) (rgH rs []))):=
   y'b fun a=>by simp only[OC.h,y'N,x'v,z'u,y'n,z'1,y'f,y'G,z'V,z'6,y'a];omega
  refine VCd.groupW T ((bq,.cells 114 2 [iD e1,iD e2])::(b10,.cells 51 4 [.gs gp c.pc.length,.gs gr c.regs.length,.gs (some (bm,capm)) c.mem.length,.gs (some (bb,capb)) c.bufs.length])::(b8,.cells 51 4 [.gs none 0,.gs none 0,.gs none 0,.gs none 0])::(bb,.cells 117 (capb*1) ((c.bufs.map buf).set (i*1) (buf b')))::(bm,.cells 3 (capm*1) (c.mem.map iD))::shp gp 3 1 (c.pc.map iD) (shp gr 22 1 (rgC rs) (rgH rs []))) 11 12 12 rfl rfl rfl (by kernel_rfl) (by kernel_rfl) (by kernel_rfl) ?_
  repeat' first|apply VCw.step T rfl rfl (by rfl);(focus((try simp (disch:=omega) only[go_sem,Nat.reduceBEq]);(first|exact rfl|refine⟨?_,rfl⟩;try omega)));(focus(try simp (disch:=omega) only[go_sem,Nat.reduceBEq]));(focus(try omega))|refine VCw.write T rfl rfl (by rfl) ?_ ?_;focus((try simp (disch:=omega) only[go_sem,Nat.reduceBEq]);omega)|refine VCw.nil T ?_|refine VCd.tail (f:=12) (by kernel_rfl) ?_;(try simp only[y'I,y'o])|refine vs T rfl fun K hK=>?_;(try simp (disch:=omega) only[go_sem,Nat.reduceBEq,Nat.reduceAdd,Nat.reduceLeDiff]);(first|refine hK _ _ ?_;clear hK K|refine⟨?_,hK _ _ ?_⟩<;>clear hK K;focus(try omega))|refine st rfl ?_|refine nl ?_|refine ov ?_
  have hcs:(OC.mk gp gr (some (bm,capm)) (some (bb,capb)) rs).cs (y'N (x'v c i b') e1.toNat e2)=[.gs gp c.pc.length,.gs gr c.regs.length,.gs (some (bm,capm)) c.mem.length,.gs (some (bb,capb)) c.bufs.length]:=by simp[OC.cs,y'N,x'v]
  refine x'g T rfl (by(try simp (disch:=omega) only[hget_ne,hget_eq]);rfl) rfl rfl rfl (z'p _) ?_
  rw[←hcs]
  exact cfz hq3 (fun y hy=>z'd _ (z'd _ (z'd _ (hpm.mem_iff.1 hy)))) true
theorem ZgR (c:Cf) (hc:OkC c) (hin:Zhl c) (m t loc:Int):Pure Tryz.prog 40 [.agg (cfC c),iD m,iD t,iD loc] (.tup [.agg (cfC (w'3 c m t loc)),bD (x'H c m t loc)]):=by
 have cc:=w'L c hc
 have cf:=ZcY c hc.buf m t loc
 refine Fun.fz ?_
 refine Fun.of T [.cell 8 51,.tmp 9] Tryz.func40 rfl Tryz.ntmps40 Tryz.results40 rfl (by kernel_rfl) ?_
 repeat' first|refine vb (t:=51) rfl rfl rfl rfl ?_|refine vs T rfl fun K hK=>?_;(try simp (disch:=omega) only[go_sem,Nat.reduceBEq,Nat.reduceAdd,Nat.reduceLeDiff]);(first|refine hK _ _ ?_;clear hK K|intro bq hbq;(try simp only[HB]at hbq);refine hK _ _ ?_;clear hK K|skip)|refine st rfl ?_|refine nl ?_
 refine Op1.callx rfl rfl cc rfl (fun q hq=>?_)
 refine hK _ _ ?_
 clear hK K
 refine vo ?_
 refine VCo.weak (Weak.perm (H':=(bq,.cells 51 4 [.gs none 0,.gs none 0,.gs none 0,.gs none 0])::q.h c []) (y'b fun a=>by simp only[z'V,z'6,y'a];omega)) ?_
 revert bq
 intro b8
 cases hfl:x'H c m t loc with
 |false=>
  rw[hfl]at cf
  have hfc:w'3 c m t loc=c:=by simp[w'3,hfl]
  rw[hfc]
  repeat' first|refine vs T rfl fun K hK=>?_;(try simp (disch:=omega) only[go_sem,Nat.reduceBEq,Nat.reduceAdd,Nat.reduceLeDiff,OC.cs,z'r]);(first|refine hK _ _ ?_;clear hK K|intro bq hbq;(try simp only[HB]at hbq);refine hK _ _ ?_;clear hK K|refine Op1.callp rfl rfl (cf) rfl ?_;refine hK _ _ ?_;clear hK K)|refine st rfl ?_|refine sc rfl ?_|refine nl ?_|refine ov ?_
  exact x'g T rfl (by(try simp (disch:=omega) only[hget_ne,hget_eq]);rfl) rfl rfl rfl (z'p _) (cfz hq (fun y hy=>z'd _ (z'd _ hy)) false)
 |true=>
  rw[hfl]at cf
  have ht0:0≤t:=by
   rcases Int.lt_or_le t 0 with h|h
   ·simp[x'H,y'e.2 h]at hfl
   ·exact h
  obtain⟨i,rfl⟩: ∃i:Nat,t=(i:Int):=⟨t.toNat,by omega⟩
  obtain⟨b,hb⟩: ∃b,c.bufs[i]?=some b:=by
   cases hb:c.bufs[i]? with
   |none=>simp[x'H,hb]at hfl
   |some b=>exact⟨b,rfl⟩
  have hil:=(z'c.1 hb).1
  have kb:=hc.buf b (z'h hb)
  have hp2:(y'T m loc b).2.2=true:=by simpa[x'H,hb]using hfl
  have hem:=hin b (z'h hb) _ (Zgk hp2)
  have rb:(y'Y c.bufs)[i]?=some [buf b]:=by rw[x'b,hb];rfl
  have cp:Pure Tryz.prog 71 [buf b,iD m,iD loc] (.tup [buf (y'T m loc b).1,.agg [iD (y'T m loc b).2.1.1,iD (y'T m loc b).2.1.2],bD (y'T m loc b).2.2]):=Zjk b (by omega) m loc
  have hfc:w'3 c m (i:Nat) loc=y'N (x'v c i (y'T m loc b).1) (y'T m loc b).2.1.1.toNat (y'T m loc b).2.1.2:=by simp[w'3,hfl,z'e,hb]
  rw[hfc]
  have hq3:=OC.okM (OC.okB hq i (y'T m loc b).1) (y'T m loc b).2.1.1.toNat (y'T m loc b).2.1.2
  generalize (y'T m loc b)=pp at*
  obtain⟨b',⟨e1,e2⟩,is⟩:=pp
  simp only at hp2 hem cp hq3 hfc⊢
  obtain⟨gp,gr,gm,gb,rs⟩:=q
  rcases gb with _|⟨bb,capb⟩
  ·have h0:c.bufs.length=0:=hq.bufs
   omega
  rcases gm with _|⟨bm,capm⟩
  ·have h0:c.mem.length=0:=hq.mem
   omega
  refine VCo.weak (Weak.perm (H':=(b8,.cells 51 4 [.gs none 0,.gs none 0,.gs none 0,.gs none 0])::(bb,.cells 117 (capb*1) (c.bufs.map buf))::(bm,.cells 3 (capm*1) (c.mem.map iD))::shp gp 3 1 (c.pc.map iD) (shp gr 22 1 (rgC rs) (rgH rs []))) (y'b fun a=>by simp only[OC.h,z'1,y'f,y'G,z'V,z'6,y'a];omega)) ?_
  refine VCo.nodup fun hn=>?_
  have n1: ¬b8=bb:=fun h=>by subst h;simp[Heap.blocks]at hn
  have n2: ¬b8=bm:=fun h=>by subst h;simp[Heap.blocks]at hn
  have n3: ¬bb=bm:=fun h=>by subst h;simp[Heap.blocks]at hn
  repeat' first|refine vs T rfl fun K hK=>?_;(try simp (disch:=omega) only[go_sem,Nat.reduceBEq,Nat.reduceAdd,Nat.reduceLeDiff,OC.cs,z'l,rb,z'Z]);(first|refine hK _ _ ?_;clear hK K|intro bq hbq;(try simp only[HB]at hbq);refine hK _ _ ?_;clear hK K|refine⟨?_,hK _ _ ?_⟩<;>clear hK K;focus(try omega)|refine Op1.callp rfl rfl (cf) rfl ?_;refine hK _ _ ?_;clear hK K|refine Op1.callp rfl rfl (cp) rfl ?_;refine hK _ _ ?_;clear hK K)|refine st rfl ?_|refine sc rfl ?_|refine nl ?_|refine ov ?_
  rename_i hb8 b10 hb10
  have hpm:((OC.mk gp gr (some (bm,capm)) (some (bb,capb)) rs).h (y'N (x'v c i b') e1.toNat e2) []).Perm ((bb,.cells 117 (capb*1) ((c.bufs.map buf).set (i*1) (buf b')))::(bm,.cells 3 (capm*1) ((c.mem.map iD).set (e1.toNat*1) (iD e2)))::shp gp 3 1 (c.pc.map iD) (shp gr 22 1 (rgC rs) (rgH rs []))):=
   y'b fun a=>by simp only[OC.h,y'N,x'v,z'u,y'n,z'1,y'f,y'G,z'V,z'6,y'a];omega
  have hcs:(OC.mk gp gr (some (bm,capm)) (some (bb,capb)) rs).cs (y'N (x'v c i b') e1.toNat e2)=[.gs gp c.pc.length,.gs gr c.regs.length,.gs (some (bm,capm)) c.mem.length,.gs (some (bb,capb)) c.bufs.length]:=by simp[OC.cs,y'N,x'v]
  refine x'g T rfl (by(try simp (disch:=omega) only[hget_ne,hget_eq]);rfl) rfl rfl rfl (z'p _) ?_
  rw[←hcs]
  exact cfz hq3 (fun y hy=>z'd _ (z'd _ (z'd _ (hpm.mem_iff.1 hy)))) true
end Go.Proofs.YtfneeacgkdhldaaGreat
