/- Contracts: whether code can be (how many numbers lie there). No condition. -/
import Derived.Test.YtjlnkedmbfdofaaGreatXe
namespace Go.Proofs.YtjlnkedmbfdofaaGreat
set_option linter.unusedSimpArgs false
set_option linter.unusedVariables false
set_option maxRecDepth 20000
open Go Go.Proofs Go.Vc
def x'l (op:Int) (n:Int):Option Int:=
 if 1≤op∧op≤4 then some (n+1)else if op=5∧1≤n then some n else if (6≤op∧op≤14)∧2≤n then some (n-1)else none
def Zc3:List Opc→Int→Int→Option (Int×Int)
 |[],n,most=>some (n,most)
 |x::r,n,most=>match x'l x.1 n with
  |some n'=>Zc3 r n' (max most n')
  |none=>none
theorem ZiO (x:Opc) (r:List Opc) (n most:Int):Zc3 (x::r) n most=(match x'l x.1 n with|some n'=>Zc3 r n' (max most n')|none=>none):=rfl
def ZiQ (rs:List Int) (own locs:Int) (x:Opc):Bool:=
 if x.1=1 then inB x.2.1 10000 else if x.1=2 then inB x.2.1 own else if x.1=3 then inB x.2.1 locs
 else if x.1=4 then inB x.2.2 rs.length&&inB x.2.1 ((rs[x.2.2.toNat]?).getD 0)else true
def oneL (o:Option (Int×Int)):Bool:=match o with|some p=>p.1 == 1|none=>false
def Zih (l:List Opc) (rs:List Int) (own locs:Int):Bool:=(l.all (ZiQ rs own locs))&&oneL (Zc3 l 0 0)
structure Nd where
 r:Bool
 l:Bool
 e:Bool
 f:Bool
 n:Bool
 t:Bool
def ndF (op:Int):Option Nd:=
 if op=2 then some ⟨true,false,true,false,false,false⟩else
 if op=3 then some ⟨true,true,false,false,false,false⟩else
 if op=4 then some ⟨false,true,true,false,false,false⟩else
 if op=5 then some ⟨true,true,true,true,false,false⟩else
 if op=6 then some ⟨true,true,true,false,false,false⟩else
 if op=7 then some ⟨true,true,true,false,false,false⟩else
 if op=8 then some ⟨false,false,false,false,false,false⟩else
 if op=9 then some ⟨false,true,true,false,true,false⟩else
 if op=20 then some ⟨false,false,false,false,false,true⟩else
 if op=21 then some ⟨false,false,true,false,false,true⟩else
 none
def x'q (has:Bool) (n m:Int):Bool:=match has with|true=>inB n m|false=>n == 0
def Zk8 (has:Bool) (l:List Opc) (regs:Int):Bool:=match has with|true=>Zih l [] regs 0|false=>decide (l.length=0)
def v'8 (x:Ins) (regs locs many:Int):Bool:=match ndF x.op with
 |none=>false
 |some d=>x'q d.r x.reg regs&&x'q d.l x.loc locs&&x'q d.t x.to many&&Zk8 d.e x.e regs&&Zk8 d.f x.f regs&&(d.n|| !x.ne)
def Zem (md:Int) (own:List Int) (all:List (List Int)) (mem:List Int) (s:List Int) (x:Opc):List Int:=
 if x.1=1 then s++[x.2.1.tmod md]else if x.1=2 then s++[own.getD x.2.1.toNat 0]else if x.1=3 then s++[mem.getD x.2.1.toNat 0]else if x.1=4 then s++[(all.getD x.2.2.toNat []).getD x.2.1.toNat 0]
 else if x.1=5 then s.set (s.length-1) (tI (s.getD (s.length-1) 0 == 0))else(s.set (s.length-2) (Zi1 x.1 (s.getD (s.length-2) 0) (s.getD (s.length-1) 0) md)).take (s.length-1)
def Zk2 (md:Int) (own:List Int) (all:List (List Int)) (mem:List Int) (l:List Opc) (s:List Int):List Int:=l.foldl (Zem md own all mem) s
def ZiN (all:List (List Int)):List Int:=all.map fun r=>(r.length:Int)
def Zi6 (l:List Opc) (md:Int) (own:List Int) (all:List (List Int)) (mem:List Int):Bool:=
 decide (2≤md)&&decide (md≤16)&&y'G own md&&y'G mem md&&(all.all fun r=>y'G r md)&&Zih l (ZiN all) own.length mem.length
def Zi7 (l:List Opc) (md:Int) (own:List Int) (all:List (List Int)) (mem:List Int):Int:=match Zi6 l md own all mem with|true=>(Zk2 md own all mem l []).getD 0 0|false=>0
theorem y'I {n m:Int}:inB n m=true↔0≤n∧n<m:=by simp[inB]
theorem Zha {s t:List Int} {md:Int}:y'G (s++t) md=(y'G s md&&y'G t md):=by simp[y'G]
theorem ZfM {s:List Int} {md:Int} (h:y'G s md=true) {i:Nat} {n:Int} (hn:s[i]?=some n):0≤n∧n<md:=by
 unfold y'G at h
 rw[z'h]at h
 exact y'I.1 (h n (z'F hn))
theorem w'n {s:List Int} {md:Int} (h:y'G s md=true) (hm:0<md) (i:Nat):0≤s.getD i 0∧s.getD i 0<md:=by
 rw[z'e]
 cases hq:s[i]? with
 |none=>exact⟨Int.le_refl _,hm⟩
 |some n=>exact ZfM h hq
theorem Zi9 {s:List Int} {md:Int} (h:y'G s md=true) (k:Nat):y'G (s.take k) md=true:=by
 unfold y'G at*
 rw[z'h]at*
 exact fun x hx=>h x (y'L hx)
theorem Zbt {s:List Int} {md:Int} (h:y'G s md=true) (k:Nat) {v:Int} (hv:0≤v∧v<md):y'G (s.set k v) md=true:=by
 unfold y'G at*
 rw[z'h]at*
 intro x hx
 rcases List.mem_or_eq_of_mem_set hx with h'|h'
 ·exact h x h'
 ·subst h';exact y'I.2 hv
theorem ZfJ (b:Bool):0≤tI b∧tI b≤1:=by cases b<;>decide
theorem Zc9 {a md:Int} (h0:0≤a) (hm:0<md):0≤a.tmod md∧a.tmod md<md:=by
 rw[Int.tmod_eq_emod_of_nonneg h0]
 exact⟨Int.emod_nonneg _ (by omega),Int.emod_lt_of_pos _ hm⟩
theorem Zmq {op a b md:Int} (hm:2≤md) (ha:0≤a∧a<md) (hb:0≤b∧b<md):0≤Zi1 op a b md∧Zi1 op a b md<md:=by
 have t: ∀c:Bool,0≤tI c∧tI c<md:=fun c=>⟨(ZfJ c).1,by have:=(ZfJ c).2;omega⟩
 unfold Zi1
 repeat' split
 all_goals first
  |exact t _
  |exact Zc9 (by omega) (by omega)
  |exact Zc9 (Int.mul_nonneg ha.1 hb.1) (by omega)
theorem Zb4 {op n:Int} (h:1≤op∧op≤4):x'l op n=some (n+1):=by simp[x'l,h]
theorem Zi0 {md:Int} (hm:2≤md) {own mem s:List Int} {all:List (List Int)} {x:Opc} (ho:ZiQ (ZiN all) own.length mem.length x=true) (hown:y'G own md=true) (hmem:y'G mem md=true)
  (hall:(all.all fun r=>y'G r md)=true) (hs:y'G s md=true) {n':Int} (hl:x'l x.1 s.length=some n'):y'G (Zem md own all mem s x) md=true∧((Zem md own all mem s x).length:Int)=n':=by
 have one: ∀v,0≤v∧v<md→y'G (s++[v]) md=true:=fun v hv=>by
  rw[Zha,hs]
  simp[y'G,y'I,inB,hv]
 have len1: ∀v:Int,((s++[v]).length:Int)=s.length+1:=fun v=>by simp
 unfold Zem
 by_cases h1:x.1=1
 ·rw[if_pos h1]
  rw[Zb4 (by omega)]at hl;cases hl
  have h0:0≤x.2.1:=by
   have:inB x.2.1 10000=true:=by simpa[ZiQ,h1]using ho
   exact(y'I.1 this).1
  exact⟨one _ (Zc9 h0 (by omega)),len1 _⟩
 rw[if_neg h1]
 by_cases h2:x.1=2
 ·rw[if_pos h2]
  rw[Zb4 (by omega)]at hl;cases hl
  exact⟨one _ (w'n hown (by omega) _),len1 _⟩
 rw[if_neg h2]
 by_cases h3:x.1=3
 ·rw[if_pos h3]
  rw[Zb4 (by omega)]at hl;cases hl
  exact⟨one _ (w'n hmem (by omega) _),len1 _⟩
 rw[if_neg h3]
 by_cases h4:x.1=4
 ·rw[if_pos h4]
  rw[Zb4 (by omega)]at hl;cases hl
  refine⟨one _ ?_,len1 _⟩
  rw[z'e (l:=all)]
  cases hq:all[x.2.2.toNat]? with
  |none=>simp;omega
  |some r=>
   rw[z'h]at hall
   exact w'n (hall r (z'F hq)) (by omega) _
 rw[if_neg h4]
 by_cases h5:x.1=5
 ·rw[if_pos h5]
  have:x'l x.1 s.length=some (s.length:Int)∨x'l x.1 s.length=none:=by
   unfold x'l
   rw[if_neg (by omega)]
   split
   ·exact .inl rfl
   ·rw[if_neg (by omega)];exact .inr rfl
  rcases this with h|h<;>rw[h]at hl<;>cases hl
  exact⟨Zbt hs _ ⟨(ZfJ _).1,by have:=(ZfJ (s.getD (s.length-1) 0 == 0)).2;omega⟩,by simp⟩
 rw[if_neg h5]
 have:(2≤(s.length:Int)∧x'l x.1 s.length=some ((s.length:Int)-1))∨x'l x.1 s.length=none:=by
  unfold x'l
  by_cases hq:1≤x.1∧x.1≤4
  ·omega
  rw[if_neg hq,if_neg (by omega)]
  split
  ·rename_i h;exact .inl ⟨h.2,rfl⟩
  ·exact .inr rfl
 rcases this with⟨h2',h⟩|h<;>rw[h]at hl<;>cases hl
 refine⟨Zi9 (Zbt hs _ (Zmq hm (w'n hs (by omega) _) (w'n hs (by omega) _))) _,?_⟩
 rw[z'z,y'V]
 omega
structure RunI (md:Int) (own:List Int) (all:List (List Int)) (mem:List Int) (l:List Opc) (k:Nat) (s:List Int):Prop where
 le:k≤l.length
 len:s.length≤k
 inm:y'G s md=true
 ok: ∃most,oneL (Zc3 (l.drop k) s.length most)=true
 run:Zk2 md own all mem (l.drop k) s=Zk2 md own all mem l []
theorem RunI.zero {md:Int} {own mem:List Int} {all:List (List Int)} {l:List Opc} (h:oneL (Zc3 l 0 0)=true):RunI md own all mem l 0 []:=
 ⟨z'Q _,z'c _,rfl,⟨0,by simpa using h⟩,by simp⟩
theorem RunI.next {md:Int} (hm:2≤md) {own mem s:List Int} {all:List (List Int)} {l:List Opc} {k:Nat} {x:Opc} (h:RunI md own all mem l k s) (hx:l[k]?=some x) (ho:ZiQ (ZiN all) own.length mem.length x=true) (hown:y'G own md=true) (hmem:y'G mem md=true)
  (hall:(all.all fun r=>y'G r md)=true):(∃n',x'l x.1 s.length=some n')∧RunI md own all mem l (k+1) (Zem md own all mem s x):=by
 have hlt:=(z's.1 hx).1
 have hdr:l.drop k=x::l.drop (k+1):=by rw[x'p hlt];congr 1;exact z'2 ((z'l hlt).symm.trans hx)
 obtain⟨most,hok⟩:=h.ok
 rw[hdr,ZiO]at hok
 cases hs:x'l x.1 s.length with
 |none=>rw[hs]at hok;cases hok
 |some n'=>
  rw[hs]at hok
  obtain⟨h1,h2⟩:=Zi0 hm ho hown hmem hall h.inm hs
  refine⟨⟨n',rfl⟩,by omega,?_,h1,⟨max most n',by rw[h2];exact hok⟩,?_⟩
  ·have:=h.len
   have hn:n'≤s.length+1:=by
    unfold x'l at hs
    repeat' split at hs
    all_goals first|(cases hs;omega)|cases hs
   omega
  ·rw[←h.run,hdr];rfl
theorem ZnJ (s:List Int):(iRs s).flatten=s.map iD:=by
 unfold iRs
 induction s with
 |nil=>rfl
 |cons n s ih=>rw[z'g,z'W,ih];rfl
theorem ZcL {g:Option (Nat×Nat)} {e:TypeId} {s:List Int} {H:Heap} (hg:gOk g s.length) (hm: ∀b cap,g=some (b,cap)→(b,HC.cells e (cap*1) (s.map iD))∈H):Fz H (v'7 s) (.gs g s.length):=by
 cases g with
 |none=>
  have h0:s=[]:=z'M hg
  subst h0
  exact Zjl
 |some p=>
  obtain⟨b,cap⟩:=p
  refine .inr ⟨rfl,.inr (.inr ⟨b,0,_,cap,.inl ⟨rfl,rfl⟩,(ZhF s).symm,_,_,_,hm b cap rfl,?_⟩)⟩
  rw[y'T]
  rw[←ZnJ]
  exact FzR.refl _ _ (ZhG s)
structure OkU (u:Un):Prop where
 ini:u.init.length≤1000
 reg:u.regs.length≤1000
 cod:u.code.length≤1000
 row: ∀r,r∈u.code→r.length≤100000
 ins: ∀r,r∈u.code→ ∀x,x∈r→x.e.length≤1000∧x.f.length≤1000
instance:Inhabited Ins:=⟨⟨0,0,0,[],[],false,0⟩⟩
def ZiS (regs locs:Int) (r:List Ins):Bool:=
 (decide (0≤regs)&&decide (regs≤6)&&decide (1≤r.length)&&decide (r.length≤1000)&&Zlf (r.getD (r.length-1) default))&&((List.range (r.length-1)).all fun i=>v'8 (r.getD i default) regs locs r.length)
def ZiK (u:Un):Bool:=decide (2≤u.md)&&decide (u.md≤16)&&y'G u.init u.md&&decide (u.init.length≤6)&&decide (1≤u.regs.length)&&decide (u.regs.length≤4)&&decide (u.code.length=u.regs.length)
def Zca (u:Un):Bool:=ZiK u&&((List.range u.regs.length).all fun t=>ZiS (u.regs.getD t 0) u.init.length (u.code.getD t []))
def ZdK (u:Un) (c:Cf) (m r:Int) (t:Nat):Bool:=
 decide (0≤c.pc.getD t 0)&&decide (c.pc.getD t 0<((u.code.getD t []).length:Int))&&decide (((c.regs.getD t []).length:Int)=u.regs.getD t 0)&&y'G (c.regs.getD t []) u.md&&x'W m r u.md u.init.length (c.bufs.getD t [])
def Zeb (u:Un) (c:Cf):Bool:=Zca u&&decide (c.pc.length=u.regs.length)&&decide (c.regs.length=u.regs.length)&&decide (c.bufs.length=u.regs.length)&&decide (c.mem.length=u.init.length)&&y'G c.mem u.md
def y'3 (u:Un) (c:Cf) (m r:Int):Bool:=Zeb u c&&((List.range u.regs.length).all fun t=>ZdK u c m r t)&&x'W m r u.md u.init.length []
end Go.Proofs.YtjlnkedmbfdofaaGreat
