/- A table of texts with open addressing, in plain Lean. No condition. -/
import Derived.Test.YthlkpnjjkgmlkaaGreatXa
import Derived.Test.YthlkpnjjkgmlkaaGreatXe
import Derived.Test.YthlkpnjjkgmlkaaGreatK2
namespace Go.Proofs.YthlkpnjjkgmlkaaGreat
set_option linter.unusedSimpArgs false
set_option linter.unusedVariables false
set_option linter.unusedSectionVars false
open Go Go.Proofs Go.Vc
attribute [local irreducible] x'r VCg VCw VCx
section
variable {β : Type} [DecidableEq β]
def Zdo (T:List β) (S:List Int) (s:β) (p:Nat):Bool:=match S.getD p 0 with
 |0=>true
 |n=>decide (T[(n-1).toNat]?=some s)
def Zbr (T:List β) (S:List Int) (h:Nat) (s:β):Nat:=((List.range S.length).find? fun j=>Zdo T S s ((h+j) % S.length)).getD 0
def ZeF (T:List β) (S:List Int) (h:Nat) (s:β):Nat:=(h+Zbr T S h s) % S.length
structure TI (hm:β→Nat) (T:List β) (S:List Int) (n:Nat):Prop where
 nT:n≤T.length
 nd:T.Nodup
 free:S.count 0+n=S.length
 val: ∀(p:Nat) (v:Int),S[p]?=some v→v=0∨ ∃i:Nat,i<n∧v=(i:Int)+1
 path: ∀(i:Nat) s,i<n→T[i]?=some s→ ∃j,j<S.length∧S[(hm s+j) % S.length]?=some ((i:Int)+1)∧ ∀j',j'<j→ ∃v,S[(hm s+j') % S.length]?=some v∧v≠0∧v≠(i:Int)+1
theorem Zla {S:List Int} (h:0<S.count 0) (a:Nat): ∃j,j<S.length∧S[(a+j) % S.length]?=some 0:=by
 obtain⟨p,hp,h0⟩:=List.mem_iff_getElem.1 (List.count_pos_iff.1 h)
 have hm:0<S.length:=by omega
 have ha:=Nat.mod_lt a hm
 refine⟨(p+S.length-a % S.length) % S.length,Nat.mod_lt _ hm,?_⟩
 have:(a+(p+S.length-a % S.length) % S.length) % S.length=p:=by
  rw[Nat.add_mod_mod]
  have h1:=Nat.mod_add_div a S.length
  have:a+(p+S.length-a % S.length)=p+S.length*(a/S.length+1):=by
   rw[Nat.mul_add,w'z];omega
  rw[this,Nat.add_mul_mod_self_left,Nat.mod_eq_of_lt hp]
 rw[this,z'k hp,h0]
theorem Zlh {T:List β} {S:List Int} {s:β} {h:Nat} (hf:0<S.count 0):Zbr T S h s<S.length∧Zdo T S s (ZeF T S h s)=true∧ ∀j',j'<Zbr T S h s→Zdo T S s ((h+j') % S.length)=false:=by
 obtain⟨j0,h0,h1⟩:=Zla hf h
 have hs0:Zdo T S s ((h+j0) % S.length)=true:=by
  unfold Zdo
  rw[z'f,h1];rfl
 cases hq:(List.range S.length).find? (fun j=>Zdo T S s ((h+j) % S.length))with
 |none=>
  rw[List.find?_eq_none]at hq
  exact absurd hs0 (hq j0 (z'Q.2 h0))
 |some j=>
  have he:Zbr T S h s=j:=by unfold Zbr;rw[hq];rfl
  rw[List.find?_eq_some_iff_getElem]at hq
  obtain⟨a1,i,a2,a3,a4⟩:=hq
  simp at a3 a2
  subst a3
  unfold ZeF
  rw[he]
  refine⟨a2,a1,fun j' hj'=>?_⟩
  have:=a4 j' hj'
  simpa using this
theorem ZpW {l:List β} (hn:l.Nodup) {i j:Nat} {x:β} (h1:l[i]?=some x) (h2:l[j]?=some x):i=j:=by
 obtain⟨a1,a2⟩:=z'z.1 h1
 obtain⟨b1,b2⟩:=z'z.1 h2
 exact(List.getElem_inj hn).1 (a2.trans b2.symm)
theorem Zq3 {hm:β→Nat} {T:List β} {S:List Int} {n:Nat} {s:β} (I:TI hm T S n) (hf:0<S.count 0) (hs: ∀i:Nat,i<n→T[i]?≠some s):
  S[ZeF T S (hm s) s]?=some 0∧Zbr T S (hm s) s<S.length∧ ∀j',j'<Zbr T S (hm s) s→ ∃v,S[(hm s+j') % S.length]?=some v∧v≠0:=by
 obtain⟨h1,h2,h3⟩:=Zlh (T:=T) (S:=S) (s:=s) (h:=hm s) hf
 have hp:ZeF T S (hm s) s<S.length:=Nat.mod_lt _ (by omega)
 obtain⟨v,hv⟩: ∃v,S[ZeF T S (hm s) s]?=some v:=⟨_,z'k hp⟩
 refine⟨?_,h1,fun j' hj'=>?_⟩
 ·rcases I.val _ v hv with rfl|⟨k,hk,rfl⟩
  ·exact hv
  ·exfalso
   unfold Zdo at h2
   rw[z'f,hv]at h2
   simp only[z'B]at h2
   split at h2
   ·omega
   ·have e:((k:Int)+1-1).toNat=k:=by omega
    rw[e]at h2
    exact hs k hk (of_decide_eq_true h2)
 ·have hq:(hm s+j') % S.length<S.length:=Nat.mod_lt _ (by omega)
  obtain⟨w,hw⟩: ∃w,S[(hm s+j') % S.length]?=some w:=⟨_,z'k hq⟩
  refine⟨w,hw,fun h0=>?_⟩
  subst h0
  have:=h3 j' hj'
  unfold Zdo at this
  rw[z'f,hw]at this
  cases this
theorem TI.put {hm:β→Nat} {T:List β} {S:List Int} {n:Nat} {s:β} (I:TI hm T S n) (hn:T[n]?=some s) (hf:0<S.count 0):TI hm T (S.set (ZeF T S (hm s) s) ((n:Int)+1)) (n+1):=by
 have hno: ∀i:Nat,i<n→T[i]?≠some s:=fun i hi h=>by
  have:=ZpW I.nd h hn;omega
 obtain⟨h1,h2,h3⟩:=Zq3 I hf hno
 have hp:=(z'z.1 h1).1
 have hlt:=(z'z.1 hn).1
 refine⟨by omega,I.nd,?_,?_,?_⟩
 ·have:=I.free
  rw[x'6,List.count_set hp]
  have e1:(S[ZeF T S (hm s) s] == 0)=true:=by
   have:=(z'z.1 h1).2
   rw[this];rfl
  have e2:(((n:Int)+1) == 0)=false:=by rw[beq_eq_false_iff_ne];omega
  rw[e1,e2]
  simp
  omega
 ·intro p v hv
  rw[List.getElem?_set]at hv
  split at hv
  ·rename_i hpp
   subst hpp
   cases hv;exact .inr ⟨n,by omega,rfl⟩
  ·rcases I.val p v hv with rfl|⟨i,hi,rfl⟩
   ·exact .inl rfl
   ·exact .inr ⟨i,by omega,rfl⟩
 ·intro i t hi ht
  rw[x'6]
  have keep: ∀(q:Nat) (v:Int),S[q]?=some v→v≠0→(S.set (ZeF T S (hm s) s) ((n:Int)+1))[q]?=some v:=by
   intro q v hv h0
   rw[x'9]
   ·exact hv
   ·intro e;subst e;rw[h1]at hv;cases hv;exact h0 rfl
  rcases z'g i n with hlt'|hge
  ·obtain⟨j,k1,k2,k3⟩:=I.path i t hlt' ht
   refine⟨j,k1,keep _ _ k2 (by omega),fun j' hj'=>?_⟩
   obtain⟨v,q1,q2,q3⟩:=k3 j' hj'
   exact⟨v,keep _ _ q1 q2,q2,q3⟩
  ·obtain rfl:i=n:=by omega
   rw[hn]at ht
   cases ht
   refine⟨Zbr T S (hm s) s,h2,?_,fun j' hj'=>?_⟩
   ·have:(hm s+Zbr T S (hm s) s) % S.length=ZeF T S (hm s) s:=rfl
    rw[this,List.getElem?_set_self hp]
   ·obtain⟨v,q1,q2⟩:=h3 j' hj'
    refine⟨v,keep _ _ q1 q2,q2,?_⟩
    rcases I.val _ v q1 with rfl|⟨k,hk,rfl⟩
    ·exact absurd rfl q2
    ·omega
theorem TI.more {hm:β→Nat} {T:List β} {S:List Int} {n:Nat} (I:TI hm T S n) {s:β} (hs:s∉T):TI hm (T++[s]) S n:=by
 refine⟨by rw[z'e];have:=I.nT;omega,y'S.2 ⟨I.nd,by simp,fun x hx y hy=>by simp at hy;rintro rfl;exact hs (hy▸hx)⟩,I.free,I.val,fun i t hi ht=>?_⟩
 rw[y'8 (by have:=I.nT;omega)]at ht
 exact I.path i t hi ht
theorem TI.none (hm:β→Nat) {T:List β} (hn:T.Nodup) (m:Nat):TI hm T (List.replicate m 0) 0:=by
 refine⟨z'm _,hn,by simp,fun p v hv=>?_,fun i s hi=>by omega⟩
 rw[List.getElem?_replicate]at hv
 split at hv
 ·cases hv;exact .inl rfl
 ·cases hv
end
def Ztm (k:IntKind) (x y:Int):Int:=k.wrap ((BitVec.ofInt k.bits x^^^BitVec.ofInt k.bits y).toNat:Nat)
def Zua (k:IntKind) (x y:Int):Int:=x.fdiv (2^min y.toNat k.bits)
def ZtA (h:Int):Nat:=(BitVec.ofInt 64 h).toNat
set_option maxRecDepth 20000
structure OkC (c:Cf):Prop where
 pc:c.pc.length≤1000
 mem:c.mem.length≤1000
 regs:c.regs.length≤1000
 row: ∀r,r∈c.regs→r.length≤1000
 bufs:c.bufs.length≤1000
 buf: ∀b,b∈c.bufs→b.length≤1000
def ZhG (md:Int) (own:List Int) (all:List (List Int)) (mem:List Int) (s:List Int) (x:Opc):List Int:=
 if x.1=1 then s++[x.2.1.tmod md]else if x.1=2 then s++[own.getD x.2.1.toNat 0]else if x.1=3 then s++[mem.getD x.2.1.toNat 0]else if x.1=4 then s++[(all.getD x.2.2.toNat []).getD x.2.1.toNat 0]
 else if x.1=5 then s.set (s.length-1) (tI (s.getD (s.length-1) 0 == 0))else(s.set (s.length-2) (Zni x.1 (s.getD (s.length-2) 0) (s.getD (s.length-1) 0) md)).take (s.length-1)
def Zqe (md:Int) (own:List Int) (all:List (List Int)) (mem:List Int) (l:List Opc) (s:List Int):List Int:=l.foldl (ZhG md own all mem) s
def ZmX (all:List (List Int)):List Int:=all.map fun r=>(r.length:Int)
def Znn (l:List Opc) (md:Int) (own:List Int) (all:List (List Int)) (mem:List Int):Bool:=
 decide (2≤md)&&decide (md≤16)&&x'A own md&&x'A mem md&&(all.all fun r=>x'A r md)&&v'j l (ZmX all) own.length mem.length
def Zno (l:List Opc) (md:Int) (own:List Int) (all:List (List Int)) (mem:List Int):Int:=match Znn l md own all mem with|true=>(Zqe md own all mem l []).getD 0 0|false=>0
theorem x'O {n m:Int}:inB n m=true↔0≤n∧n<m:=by simp[inB]
theorem Zk6 {s t:List Int} {md:Int}:x'A (s++t) md=(x'A s md&&x'A t md):=by simp[x'A]
theorem Zjn {s:List Int} {md:Int} (h:x'A s md=true) {i:Nat} {n:Int} (hn:s[i]?=some n):0≤n∧n<md:=by
 unfold x'A at h
 rw[z'l]at h
 exact x'O.1 (h n (z'E hn))
theorem v'S {s:List Int} {md:Int} (h:x'A s md=true) (hm:0<md) (i:Nat):0≤s.getD i 0∧s.getD i 0<md:=by
 rw[z'f]
 cases hq:s[i]? with
 |none=>exact⟨Int.le_refl _,hm⟩
 |some n=>exact Zjn h hq
theorem Zns {s:List Int} {md:Int} (h:x'A s md=true) (k:Nat):x'A (s.take k) md=true:=by
 unfold x'A at*
 rw[z'l]at*
 exact fun x hx=>h x (v's hx)
theorem Zd3 {s:List Int} {md:Int} (h:x'A s md=true) (k:Nat) {v:Int} (hv:0≤v∧v<md):x'A (s.set k v) md=true:=by
 unfold x'A at*
 rw[z'l]at*
 intro x hx
 rcases List.mem_or_eq_of_mem_set hx with h'|h'
 ·exact h x h'
 ·subst h';exact x'O.2 hv
theorem Zji (b:Bool):0≤tI b∧tI b≤1:=by cases b<;>decide
theorem ZfT {a md:Int} (h0:0≤a) (hm:0<md):0≤a.tmod md∧a.tmod md<md:=by
 rw[Int.tmod_eq_emod_of_nonneg h0]
 exact⟨Int.emod_nonneg _ (by omega),Int.emod_lt_of_pos _ hm⟩
theorem Zr3 {op a b md:Int} (hm:2≤md) (ha:0≤a∧a<md) (hb:0≤b∧b<md):0≤Zni op a b md∧Zni op a b md<md:=by
 have t: ∀c:Bool,0≤tI c∧tI c<md:=fun c=>⟨(Zji c).1,by have:=(Zji c).2;omega⟩
 unfold Zni
 repeat' split
 all_goals first
  |exact t _
  |exact ZfT (by omega) (by omega)
  |exact ZfT (Int.mul_nonneg ha.1 hb.1) (by omega)
theorem ZeB {op n:Int} (h:1≤op∧op≤4):x'c op n=some (n+1):=by simp[x'c,h]
theorem Znd {md:Int} (hm:2≤md) {own mem s:List Int} {all:List (List Int)} {x:Opc} (ho:x'x (ZmX all) own.length mem.length x=true) (hown:x'A own md=true) (hmem:x'A mem md=true)
  (hall:(all.all fun r=>x'A r md)=true) (hs:x'A s md=true) {n':Int} (hl:x'c x.1 s.length=some n'):x'A (ZhG md own all mem s x) md=true∧((ZhG md own all mem s x).length:Int)=n':=by
 have one: ∀v,0≤v∧v<md→x'A (s++[v]) md=true:=fun v hv=>by
  rw[Zk6,hs]
  simp[x'A,x'O,inB,hv]
 have len1: ∀v:Int,((s++[v]).length:Int)=s.length+1:=fun v=>by simp
 unfold ZhG
 by_cases h1:x.1=1
 ·rw[if_pos h1]
  rw[ZeB (by omega)]at hl;cases hl
  have h0:0≤x.2.1:=by
   have:inB x.2.1 10000=true:=by simpa[x'x,h1]using ho
   exact(x'O.1 this).1
  exact⟨one _ (ZfT h0 (by omega)),len1 _⟩
 rw[if_neg h1]
 by_cases h2:x.1=2
 ·rw[if_pos h2]
  rw[ZeB (by omega)]at hl;cases hl
  exact⟨one _ (v'S hown (by omega) _),len1 _⟩
 rw[if_neg h2]
 by_cases h3:x.1=3
 ·rw[if_pos h3]
  rw[ZeB (by omega)]at hl;cases hl
  exact⟨one _ (v'S hmem (by omega) _),len1 _⟩
 rw[if_neg h3]
 by_cases h4:x.1=4
 ·rw[if_pos h4]
  rw[ZeB (by omega)]at hl;cases hl
  refine⟨one _ ?_,len1 _⟩
  rw[z'f (l:=all)]
  cases hq:all[x.2.2.toNat]? with
  |none=>simp;omega
  |some r=>
   rw[z'l]at hall
   exact v'S (hall r (z'E hq)) (by omega) _
 rw[if_neg h4]
 by_cases h5:x.1=5
 ·rw[if_pos h5]
  have:x'c x.1 s.length=some (s.length:Int)∨x'c x.1 s.length=none:=by
   unfold x'c
   rw[if_neg (by omega)]
   split
   ·exact .inl rfl
   ·rw[if_neg (by omega)];exact .inr rfl
  rcases this with h|h<;>rw[h]at hl<;>cases hl
  exact⟨Zd3 hs _ ⟨(Zji _).1,by have:=(Zji (s.getD (s.length-1) 0 == 0)).2;omega⟩,by simp⟩
 rw[if_neg h5]
 have:(2≤(s.length:Int)∧x'c x.1 s.length=some ((s.length:Int)-1))∨x'c x.1 s.length=none:=by
  unfold x'c
  by_cases hq:1≤x.1∧x.1≤4
  ·omega
  rw[if_neg hq,if_neg (by omega)]
  split
  ·rename_i h;exact .inl ⟨h.2,rfl⟩
  ·exact .inr rfl
 rcases this with⟨h2',h⟩|h<;>rw[h]at hl<;>cases hl
 refine⟨Zns (Zd3 hs _ (Zr3 hm (v'S hs (by omega) _) (v'S hs (by omega) _))) _,?_⟩
 rw[z'T,x'6]
 omega
structure RunI (md:Int) (own:List Int) (all:List (List Int)) (mem:List Int) (l:List Opc) (k:Nat) (s:List Int):Prop where
 le:k≤l.length
 len:s.length≤k
 inm:x'A s md=true
 ok: ∃most,oneL (v'k (l.drop k) s.length most)=true
 run:Zqe md own all mem (l.drop k) s=Zqe md own all mem l []
theorem RunI.zero {md:Int} {own mem:List Int} {all:List (List Int)} {l:List Opc} (h:oneL (v'k l 0 0)=true):RunI md own all mem l 0 []:=
 ⟨z'm _,z'c _,rfl,⟨0,by simpa using h⟩,by simp⟩
theorem RunI.next {md:Int} (hm:2≤md) {own mem s:List Int} {all:List (List Int)} {l:List Opc} {k:Nat} {x:Opc} (h:RunI md own all mem l k s) (hx:l[k]?=some x) (ho:x'x (ZmX all) own.length mem.length x=true) (hown:x'A own md=true) (hmem:x'A mem md=true)
  (hall:(all.all fun r=>x'A r md)=true):(∃n',x'c x.1 s.length=some n')∧RunI md own all mem l (k+1) (ZhG md own all mem s x):=by
 have hlt:=(z'z.1 hx).1
 have hdr:l.drop k=x::l.drop (k+1):=by rw[x'4 hlt];congr 1;exact z'W ((z'k hlt).symm.trans hx)
 obtain⟨most,hok⟩:=h.ok
 rw[hdr,Zbh]at hok
 cases hs:x'c x.1 s.length with
 |none=>rw[hs]at hok;cases hok
 |some n'=>
  rw[hs]at hok
  obtain⟨h1,h2⟩:=Znd hm ho hown hmem hall h.inm hs
  refine⟨⟨n',rfl⟩,by omega,?_,h1,⟨max most n',by rw[h2];exact hok⟩,?_⟩
  ·have:=h.len
   have hn:n'≤s.length+1:=by
    unfold x'c at hs
    repeat' split at hs
    all_goals first|(cases hs;omega)|cases hs
   omega
  ·rw[←h.run,hdr];rfl
theorem Ztt (s:List Int):(iRs s).flatten=s.map iD:=by
 unfold iRs
 induction s with
 |nil=>rfl
 |cons n s ih=>rw[z'p,y'o,ih];rfl
theorem ZhL {g:Option (Nat×Nat)} {e:TypeId} {s:List Int} {H:Heap} (hg:gOk g s.length) (hm: ∀b cap,g=some (b,cap)→(b,HC.cells e (cap*1) (s.map iD))∈H):Fz H (w'H s) (.gs g s.length):=by
 cases g with
 |none=>
  have h0:s=[]:=z'3 hg
  subst h0
  exact x'I
 |some p=>
  obtain⟨b,cap⟩:=p
  refine .inr ⟨rfl,.inr (.inr ⟨b,0,_,cap,.inl ⟨rfl,rfl⟩,(y'T s).symm,_,_,_,hm b cap rfl,?_⟩)⟩
  rw[y'e]
  rw[←Ztt]
  exact FzR.refl _ _ (Zh7 s)
abbrev G:=Option (Nat×Nat)
theorem Zmd {g:G} {e:TypeId} {esz:Nat} {l:List D} {X H:Heap}:shp g e esz l X++H=shp g e esz l (X++H):=by cases g<;>rfl
theorem ZfM {g:G} {e:TypeId} {esz:Nat} {l:List D} {X:Heap} {x:Nat×HC} (h:x∈X):x∈shp g e esz l X:=by
 cases g with
 |none=>exact h
 |some p=>exact z'o _ h
theorem ZaH {b cap:Nat} {e:TypeId} {esz:Nat} {l:List D} {X:Heap}:(b,HC.cells e (cap*esz) l)∈shp (some (b,cap)) e esz l X:=z't ..
abbrev OR:=List (G×List Int)
def rgC (rs:OR):List D:=rs.map fun p=> .gs p.1 p.2.length
def rgH:OR→Heap→Heap
 |[],X=>X
 |p::rs,X=>shp p.1 3 1 (p.2.map iD) (rgH rs X)
noncomputable def cnt (a:Nat×HC) (H:Heap):Nat:= @List.count _ (@instBEqOfDecidableEq _ (fun _ _=>Classical.propDecidable _)) a H
theorem y'n {H H':Heap} (h: ∀a,cnt a H=cnt a H'):H.Perm H':=by
 letI:DecidableEq (Nat×HC):=fun _ _=>Classical.propDecidable _
 exact List.perm_iff_count.2 h
noncomputable def cnS (g:G) (e:TypeId) (esz:Nat) (l:List D) (a:Nat×HC):Nat:=cnt a (shp g e esz l [])
noncomputable def cn1 (x a:Nat×HC):Nat:=cnt a [x]
theorem y'i (a:Nat×HC) (X Y:Heap):cnt a (X++Y)=cnt a X+cnt a Y:=by
 unfold cnt
 letI:DecidableEq (Nat×HC):=fun _ _=>Classical.propDecidable _
 exact List.count_append
theorem y'k (a:Nat×HC):cnt a []=0:=rfl
theorem y'c (a x:Nat×HC) (X:Heap):cnt a (x::X)=cn1 x a+cnt a X:=y'i a [x] X
theorem y'y (a:Nat×HC) (g:G) (e:TypeId) (esz:Nat) (l:List D) (X:Heap):cnt a (shp g e esz l X)=cnS g e esz l a+cnt a X:=by
 have:shp g e esz l X=shp g e esz l []++X:=by rw[Zmd];rfl
 rw[this,y'i];rfl
theorem VCo.weak {P:Program} {n:Nat} {ops:Array Oper} {l:List Oper} {s s':St} {Q:Exit→St→Prop} (h:Weak s s') (hv:VCo P n ops l s' Q):VCo P n ops l s Q:=fun x a w hn hs=>hv x a w hn (h x a w hs)
structure OC where
 gp:G
 gr:G
 gm:G
 gb:G
 rs:OR
structure OC.ok (q:OC) (c:Cf):Prop where
 pc:gOk q.gp c.pc.length
 gr:gOk q.gr c.regs.length
 mem:gOk q.gm c.mem.length
 bufs:gOk q.gb c.bufs.length
 rows:q.rs.map (·.2)=c.regs
 row: ∀p,p∈q.rs→gOk p.1 p.2.length
def OC.cs (q:OC) (c:Cf):List D:=[.gs q.gp c.pc.length,.gs q.gr c.regs.length,.gs q.gm c.mem.length,.gs q.gb c.bufs.length]
def OC.h (q:OC) (c:Cf) (X:Heap):Heap:=shp q.gp 3 1 (c.pc.map iD) (shp q.gr 29 1 (rgC q.rs) (shp q.gm 3 1 (c.mem.map iD) (shp q.gb 119 1 (c.bufs.map buf) (rgH q.rs X))))
theorem Zcu {H:Heap}: ∀(rs:OR),(∀p,p∈rs→gOk p.1 p.2.length)→(∀x,x∈rgH rs []→x∈H)→FzR H 1 (ZtH (rs.map (·.2))) (rgC rs)
 |[],_,_=>trivial
 |p::rs,hg,hm=>by
  refine⟨rfl,⟨_,_,rfl,ZhL (e:=3) (hg p (z't ..)) (fun b cap hb=>hm _ ?_),trivial⟩,?_⟩
  ·rw[rgH,hb];exact ZaH
  ·exact Zcu rs (fun p hp=>hg p (z'o _ hp)) (fun x hx=>hm x (ZfM hx))
theorem ZgP {H:Heap} {g:G} {e:TypeId} {esz:Nat} {l:List D} {rows:List (List D)} {n:Nat} (hn:n=rows.length) (hg:gOk g n) (hm: ∀b cap,g=some (b,cap)→(b,HC.cells e (cap*esz) l)∈H) (hr:FzR H esz rows l):
  Fz H (.sl false esz rows) (.gs g n):=by
 cases g with
 |none=>
  have h0:n=0:=hg
  subst h0
  have:rows=[]:=z'3 hn.symm
  subst this
  exact x'I
 |some p=>
  obtain⟨b,cap⟩:=p
  exact .inr ⟨rfl,.inr (.inr ⟨b,0,_,cap,.inl ⟨rfl,rfl⟩,hn,_,_,_,hm b cap rfl,by rw[y'e];exact hr⟩)⟩
theorem Fun.perm {P:Program} {f:FuncId} {args:List D} {H:Heap} {fr:Bool} {Φ Ψ:D→Heap→Prop} (h:Fun P f args H fr Φ) (hk: ∀d H',Φ d H'→ ∃H'',H'.Perm H''∧Ψ d H''):Fun P f args H fr Ψ:=
 ⟨h.1,fun w L0 vs hi hr=>(h.2 w L0 vs hi hr).mono fun e w' ⟨v,he,d,H',h1,h2,h3,h4⟩=>by
  obtain⟨H'',hp,hψ⟩:=hk d H' h1
  exact⟨v,he,d,H'',hψ,by rw[v'1 hp];exact h2,h3.perm hp,h4.perm (.refl _) hp⟩⟩
theorem Weak.cutC {env:Nat→D} {b n:Nat} {e:TypeId} {k:Nat} {l:List Int} {X:Heap}:Weak ⟨env,(b,.cells e n (l.map iD))::X⟩ ⟨env,(b,.cells e n ((l.take k).map iD))::X⟩:=fun x a w h=>by
 have hlv:live ((b,HC.cells e n ((l.take k).map iD))::X) x.L0=live ((b,HC.cells e n (l.map iD))::X) x.L0:=rfl
 refine{env:=fun t=>by rw[hlv];exact h.env t,inv:=?_,evo:=?_,defers:=h.defers,size:=h.size}
 ·refine{rel:=fun b' c hm=>?_,nodup:=h.inv.nodup,apart:=h.inv.apart,old:=h.inv.old}
  rw[hlv]
  rcases z'v.1 hm with hm|hm
  ·cases hm
   rw[List.map_take]
   exact HRel.cut (h.inv.rel b _ (z't ..))
  ·exact h.inv.rel b' c (z'o _ hm)
 ·exact⟨h.evo.os,h.evo.tape,h.evo.output,h.evo.size,h.evo.block,h.evo.fresh⟩
def ZsB (h b:Int):Int:=IntKind.u64.wrap (Ztm .u64 h b*1099511628211)
def Zsh (s:ByteArray) (k:Nat):List Int:=((s.data.toList.drop k).take 8).map (fun c=>(c.toNat:Int))++List.replicate (8-(s.size-k)) 0
def Zs5 (h:Int) (l:List Int):Int:=l.foldl (fun h b=>ZsB h (IntKind.u64.wrap b)) h
def ZqE (s:ByteArray):Nat→Int
 |0=>14695981039346656037
 |j+1=>Zs5 (ZqE s j) (Zsh s (8*j))
def Zst (s:ByteArray):Int:=
 let h:=ZsB (ZqE s ((s.size+7)/8)) (IntKind.u64.wrap (s.size:Nat))
 Ztm .u64 h (Zua .u64 h 29)
theorem Zpz: ∃F:ByteArray→Int,F=Zst:=⟨_,rfl⟩
noncomputable def Ztz:ByteArray→Int:=Classical.choose Zpz
noncomputable abbrev hm0 (s:ByteArray):Nat:=ZtA (Ztz s)
structure ZtN (X:List ByteArray) (S:List Int) (k:Nat):Prop where
 len:S.length=2^k
 kk:4≤k∧k≤40
 free:0<S.count 0
 val: ∀v,v∈S→v=0∨ ∃i:Nat,i<X.length∧v=(i:Int)+1
 tl:X.length≤1000000
def lens {α:Type} (l:List (List α)):Nat:=(l.map List.length).sum
end Go.Proofs.YthlkpnjjkgmlkaaGreat
