/- A table of texts with open addressing, in plain Lean. No condition. -/
import Derived.Test.YtfneeacgkdhldaaGreatWb
import Derived.Test.YtfneeacgkdhldaaGreatXe
import Derived.Test.YtfneeacgkdhldaaGreatWd
import Derived.Test.YtfneeacgkdhldaaGreatBc
import Derived.Test.YtfneeacgkdhldaaGreatDf
import Derived.Test.YtfneeacgkdhldaaGreatSa
import Derived.Test.YtfneeacgkdhldaaGreatXg
import Derived.Test.YtfneeacgkdhldaaGreatYj
import Derived.Test.YtfneeacgkdhldaaGreatYq
import Derived.Test.YtfneeacgkdhldaaGreatRb
import Derived.Test.YtfneeacgkdhldaaGreatRg
import Derived.Test.YtfneeacgkdhldaaGreatYc
import Derived.Test.YtfneeacgkdhldaaGreatFq
import Derived.Test.YtfneeacgkdhldaaGreatRj
import Derived.Test.YtfneeacgkdhldaaGreatRt
import Derived.Test.YtfneeacgkdhldaaGreatDg
namespace Go.Proofs.YtfneeacgkdhldaaGreat
set_option linter.unusedSimpArgs false
set_option linter.unusedVariables false
set_option linter.unusedSectionVars false
open Go Go.Proofs Go.Vc
attribute [local irreducible] y'5 VCg VCw VCx
section
variable {β : Type} [DecidableEq β]
def ZcS (T:List β) (S:List Int) (s:β) (p:Nat):Bool:=match S.getD p 0 with
 |0=>true
 |n=>decide (T[(n-1).toNat]?=some s)
def Zbv (T:List β) (S:List Int) (h:Nat) (s:β):Nat:=((List.range S.length).find? fun j=>ZcS T S s ((h+j) % S.length)).getD 0
def ZcX (T:List β) (S:List Int) (h:Nat) (s:β):Nat:=(h+Zbv T S h s) % S.length
structure TI (hm:β→Nat) (T:List β) (S:List Int) (n:Nat):Prop where
 nT:n≤T.length
 nd:T.Nodup
 free:S.count 0+n=S.length
 val: ∀(p:Nat) (v:Int),S[p]?=some v→v=0∨ ∃i:Nat,i<n∧v=(i:Int)+1
 path: ∀(i:Nat) s,i<n→T[i]?=some s→ ∃j,j<S.length∧S[(hm s+j) % S.length]?=some ((i:Int)+1)∧ ∀j',j'<j→ ∃v,S[(hm s+j') % S.length]?=some v∧v≠0∧v≠(i:Int)+1
theorem Ziz {S:List Int} (h:0<S.count 0) (a:Nat): ∃j,j<S.length∧S[(a+j) % S.length]?=some 0:=by
 obtain⟨p,hp,h0⟩:=List.mem_iff_getElem.1 (List.count_pos_iff.1 h)
 have hm:0<S.length:=by omega
 have ha:=Nat.mod_lt a hm
 refine⟨(p+S.length-a % S.length) % S.length,Nat.mod_lt _ hm,?_⟩
 have:(a+(p+S.length-a % S.length) % S.length) % S.length=p:=by
  rw[Nat.add_mod_mod]
  have h1:=Nat.mod_add_div a S.length
  have:a+(p+S.length-a % S.length)=p+S.length*(a/S.length+1):=by
   rw[Nat.mul_add,z'u];omega
  rw[this,Nat.add_mul_mod_self_left,Nat.mod_eq_of_lt hp]
 rw[this,z'b hp,h0]
theorem ZiH {T:List β} {S:List Int} {s:β} {h:Nat} (hf:0<S.count 0):Zbv T S h s<S.length∧ZcS T S s (ZcX T S h s)=true∧ ∀j',j'<Zbv T S h s→ZcS T S s ((h+j') % S.length)=false:=by
 obtain⟨j0,h0,h1⟩:=Ziz hf h
 have hs0:ZcS T S s ((h+j0) % S.length)=true:=by
  unfold ZcS
  rw[z'e,h1];rfl
 cases hq:(List.range S.length).find? (fun j=>ZcS T S s ((h+j) % S.length))with
 |none=>
  rw[List.find?_eq_none]at hq
  exact absurd hs0 (hq j0 (z'G.2 h0))
 |some j=>
  have he:Zbv T S h s=j:=by unfold Zbv;rw[hq];rfl
  rw[List.find?_eq_some_iff_getElem]at hq
  obtain⟨a1,i,a2,a3,a4⟩:=hq
  simp at a3 a2
  subst a3
  unfold ZcX
  rw[he]
  refine⟨a2,a1,fun j' hj'=>?_⟩
  have:=a4 j' hj'
  simpa using this
theorem Zmn {l:List β} (hn:l.Nodup) {i j:Nat} {x:β} (h1:l[i]?=some x) (h2:l[j]?=some x):i=j:=by
 obtain⟨a1,a2⟩:=z'c.1 h1
 obtain⟨b1,b2⟩:=z'c.1 h2
 exact(List.getElem_inj hn).1 (a2.trans b2.symm)
theorem ZnF {hm:β→Nat} {T:List β} {S:List Int} {n:Nat} {s:β} (I:TI hm T S n) (hf:0<S.count 0) (hs: ∀i:Nat,i<n→T[i]?≠some s):
  S[ZcX T S (hm s) s]?=some 0∧Zbv T S (hm s) s<S.length∧ ∀j',j'<Zbv T S (hm s) s→ ∃v,S[(hm s+j') % S.length]?=some v∧v≠0:=by
 obtain⟨h1,h2,h3⟩:=ZiH (T:=T) (S:=S) (s:=s) (h:=hm s) hf
 have hp:ZcX T S (hm s) s<S.length:=Nat.mod_lt _ (by omega)
 obtain⟨v,hv⟩: ∃v,S[ZcX T S (hm s) s]?=some v:=⟨_,z'b hp⟩
 refine⟨?_,h1,fun j' hj'=>?_⟩
 ·rcases I.val _ v hv with rfl|⟨k,hk,rfl⟩
  ·exact hv
  ·exfalso
   unfold ZcS at h2
   rw[z'e,hv]at h2
   simp only[z'L]at h2
   split at h2
   ·omega
   ·have e:((k:Int)+1-1).toNat=k:=by omega
    rw[e]at h2
    exact hs k hk (of_decide_eq_true h2)
 ·have hq:(hm s+j') % S.length<S.length:=Nat.mod_lt _ (by omega)
  obtain⟨w,hw⟩: ∃w,S[(hm s+j') % S.length]?=some w:=⟨_,z'b hq⟩
  refine⟨w,hw,fun h0=>?_⟩
  subst h0
  have:=h3 j' hj'
  unfold ZcS at this
  rw[z'e,hw]at this
  cases this
theorem TI.put {hm:β→Nat} {T:List β} {S:List Int} {n:Nat} {s:β} (I:TI hm T S n) (hn:T[n]?=some s) (hf:0<S.count 0):TI hm T (S.set (ZcX T S (hm s) s) ((n:Int)+1)) (n+1):=by
 have hno: ∀i:Nat,i<n→T[i]?≠some s:=fun i hi h=>by
  have:=Zmn I.nd h hn;omega
 obtain⟨h1,h2,h3⟩:=ZnF I hf hno
 have hp:=(z'c.1 h1).1
 have hlt:=(z'c.1 hn).1
 refine⟨by omega,I.nd,?_,?_,?_⟩
 ·have:=I.free
  rw[y'U,List.count_set hp]
  have e1:(S[ZcX T S (hm s) s] == 0)=true:=by
   have:=(z'c.1 h1).2
   rw[this];rfl
  have e2:(((n:Int)+1) == 0)=false:=by rw[beq_eq_false_iff_ne];omega
  rw[e1,e2]
  simp
  omega
 ·intro p v hv
  rw[v'P]at hv
  split at hv
  ·rename_i hpp
   subst hpp
   cases hv;exact .inr ⟨n,by omega,rfl⟩
  ·rcases I.val p v hv with rfl|⟨i,hi,rfl⟩
   ·exact .inl rfl
   ·exact .inr ⟨i,by omega,rfl⟩
 ·intro i t hi ht
  rw[y'U]
  have keep: ∀(q:Nat) (v:Int),S[q]?=some v→v≠0→(S.set (ZcX T S (hm s) s) ((n:Int)+1))[q]?=some v:=by
   intro q v hv h0
   rw[v'7]
   ·exact hv
   ·intro e;subst e;rw[h1]at hv;cases hv;exact h0 rfl
  rcases z'g i n with hlt'|hge
  ·obtain⟨j,k1,k2,k3⟩:=I.path i t hlt' ht
   refine⟨j,k1,keep _ _ k2 (by omega),fun j' hj'=>?_⟩
   obtain⟨v,q1,q2,q3⟩:=k3 j' hj'
   exact⟨v,keep _ _ q1 q2,q2,q3⟩
  ·obtain rfl:i=n:=by omega
   rw[hn]at ht
   cases ht
   refine⟨Zbv T S (hm s) s,h2,?_,fun j' hj'=>?_⟩
   ·have:(hm s+Zbv T S (hm s) s) % S.length=ZcX T S (hm s) s:=rfl
    rw[this,List.getElem?_set_self hp]
   ·obtain⟨v,q1,q2⟩:=h3 j' hj'
    refine⟨v,keep _ _ q1 q2,q2,?_⟩
    rcases I.val _ v q1 with rfl|⟨k,hk,rfl⟩
    ·exact absurd rfl q2
    ·omega
theorem TI.more {hm:β→Nat} {T:List β} {S:List Int} {n:Nat} (I:TI hm T S n) {s:β} (hs:s∉T):TI hm (T++[s]) S n:=by
 refine⟨by rw[z'o];have:=I.nT;omega,x'a.2 ⟨I.nd,by simp,fun x hx y hy=>by simp at hy;rintro rfl;exact hs (hy▸hx)⟩,I.free,I.val,fun i t hi ht=>?_⟩
 rw[z'9 (by have:=I.nT;omega)]at ht
 exact I.path i t hi ht
theorem TI.none (hm:β→Nat) {T:List β} (hn:T.Nodup) (m:Nat):TI hm T (List.replicate m 0) 0:=by
 refine⟨z'M _,hn,by simp,fun p v hv=>?_,fun i s hi=>by omega⟩
 rw[List.getElem?_replicate]at hv
 split at hv
 ·cases hv;exact .inl rfl
 ·cases hv
end
def Zg9 (n:Int):Prop:=0≤n∧n<256
def Zqg (p:Int) (r:List Int) (b:List En):Prop:=(0≤p∧p<65536)∧(∀n,n∈r→Zg9 n)∧b.length<256∧ ∀e,e∈b→Zg9 e.1∧Zg9 e.2
structure CfB (rg:List Int) (lm:Nat) (c:Cf):Prop where
 pl:c.pc.length=rg.length
 rl:c.regs.length=rg.length
 bl:c.bufs.length=rg.length
 ml:c.mem.length=lm
 ms: ∀n,n∈c.mem→Zg9 n
 th: ∀(t:Nat) p r b,c.pc[t]?=some p→c.regs[t]?=some r→c.bufs[t]?=some b→Zqg p r b∧rg[t]?=some (r.length:Int)
set_option maxRecDepth 20000
def lens {α:Type} (l:List (List α)):Nat:=(l.map List.length).sum
abbrev zC (l:Nat):HC:= .cells 3 (l*1) ((List.replicate l (0:Int)).map iD)
def oB (l:Nat):Option Nat→Heap
 |none=>[]
 |some b=>[(b,zC l)]
def oG:Option Nat→Heap
 |none=>[]
 |some b=>[(b,.cells 32 3 [.gs none 0,.gs none 0,.gs none 0])]
abbrev gsZ (b l:Nat):D:= .gs (some (b,l)) l
structure J16 (E0:Nat→D) (l:Nat) (S M:D) (H0:Heap) (L:Nat→Prop) (E:Nat→D) (H:Heap) (xa xt xg:Option Nat):Prop where
 old: ∀t,t<82→t≠10→E t=E0 t
 s0:L 0→E 82=S
 s1:L 1→E 83=M
 s2:L 2→E 84=iD (l:Nat)
 s4:L 4→E 86=M
 s5:L 5→E 87=iD (l:Nat)
 a:L 3→ ∃b,xa=some b∧E 85=gsZ b l
 a': ¬L 3→xa=none
 t:L 6→ ∃b,xt=some b∧E 88=gsZ b l
 t': ¬L 6→xt=none
 g:L 8→ ∃b,xg=some b∧E 10=pD b
 g': ¬L 8→xg=none
 v:L 7→ ∃b c,xa=some b∧xt=some c∧E 89= .agg [S,gsZ b l,gsZ c l]
 hp:H.Perm (oB l xa++(oB l xt++(oG xg++H0)))
theorem Zdh {E:Nat→D} {s:Nat} {d:D}:upd E s d s=d:=by simp[upd]
theorem w'N {E:Nat→D} {s t:Nat} {d:D} (h:s≠t):upd E s d t=E t:=by
 have:(s == t)=false:=by rw[beq_eq_false_iff_ne];exact h
 simp[upd,this]
section
variable {E0 E : Nat → D} {l : Nat} {S M : D} {H0 H : Heap} {L : Nat → Prop} {xa xt xg : Option Nat}
theorem J16.mv {k s:Nat} {d:D} (j:J16 E0 l S M H0 L E H xa xt xg) (hs:(k=0∧s=82∧d=S)∨(k=1∧s=83∧d=M)∨(k=2∧s=84∧d=iD (l:Nat))∨(k=4∧s=86∧d=M)∨(k=5∧s=87∧d=iD (l:Nat))):
  J16 E0 l S M H0 (fun i=>i=k∨L i) (upd E s d) H xa xt xg:=by
 rcases hs with⟨rfl,rfl,rfl⟩|⟨rfl,rfl,rfl⟩|⟨rfl,rfl,rfl⟩|⟨rfl,rfl,rfl⟩|⟨rfl,rfl,rfl⟩
 all_goals exact
  {old:=fun t h1 h2=>(w'N (by omega)).trans (j.old t h1 h2)
   s0:=fun h=>by first|exact Zdh|exact(w'N (by decide)).trans (j.s0 (h.resolve_left (by decide)))
   s1:=fun h=>by first|exact Zdh|exact(w'N (by decide)).trans (j.s1 (h.resolve_left (by decide)))
   s2:=fun h=>by first|exact Zdh|exact(w'N (by decide)).trans (j.s2 (h.resolve_left (by decide)))
   s4:=fun h=>by first|exact Zdh|exact(w'N (by decide)).trans (j.s4 (h.resolve_left (by decide)))
   s5:=fun h=>by first|exact Zdh|exact(w'N (by decide)).trans (j.s5 (h.resolve_left (by decide)))
   a:=fun h=>let ⟨b,h1,h2⟩:=j.a (h.resolve_left (by decide));⟨b,h1,(w'N (by decide)).trans h2⟩
   a':=fun h=>j.a' fun q=>h (.inr q)
   t:=fun h=>let ⟨b,h1,h2⟩:=j.t (h.resolve_left (by decide));⟨b,h1,(w'N (by decide)).trans h2⟩
   t':=fun h=>j.t' fun q=>h (.inr q)
   g:=fun h=>let ⟨b,h1,h2⟩:=j.g (h.resolve_left (by decide));⟨b,h1,(w'N (by decide)).trans h2⟩
   g':=fun h=>j.g' fun q=>h (.inr q)
   v:=fun h=>let ⟨b,c,h1,h2,h3⟩:=j.v (h.resolve_left (by decide));⟨b,c,h1,h2,(w'N (by decide)).trans h3⟩
   hp:=j.hp}
theorem J16.agg {a b:Nat} (j:J16 E0 l S M H0 L E H xa xt xg) (ha:xa=some a) (hb:xt=some b):J16 E0 l S M H0 (fun i=>i=7∨L i) (upd E 89 (.agg [S,gsZ a l,gsZ b l])) H xa xt xg where
 old t h1 h2:=(w'N (by omega)).trans (j.old t h1 h2)
 s0 h:=(w'N (by decide)).trans (j.s0 (h.resolve_left (by decide)))
 s1 h:=(w'N (by decide)).trans (j.s1 (h.resolve_left (by decide)))
 s2 h:=(w'N (by decide)).trans (j.s2 (h.resolve_left (by decide)))
 s4 h:=(w'N (by decide)).trans (j.s4 (h.resolve_left (by decide)))
 s5 h:=(w'N (by decide)).trans (j.s5 (h.resolve_left (by decide)))
 a h:=let ⟨b,h1,h2⟩:=j.a (h.resolve_left (by decide));⟨b,h1,(w'N (by decide)).trans h2⟩
 a' h:=j.a' fun q=>h (.inr q)
 t h:=let ⟨b,h1,h2⟩:=j.t (h.resolve_left (by decide));⟨b,h1,(w'N (by decide)).trans h2⟩
 t' h:=j.t' fun q=>h (.inr q)
 g h:=let ⟨b,h1,h2⟩:=j.g (h.resolve_left (by decide));⟨b,h1,(w'N (by decide)).trans h2⟩
 g' h:=j.g' fun q=>h (.inr q)
 v _:=⟨a,b,ha,hb,Zdh⟩
 hp:=j.hp
end
theorem ZkE {α:Type} [DecidableEq α] {mv:α→List Int} {ac:α→Int→α} {cf:List α}: ∀{n:Nat} {e:Nat×Int×Nat},e∈w'C mv ac cf n→e.1<n:=by
 intro n e he
 unfold w'C at he
 obtain⟨j,hj,he⟩:=v'Z.1 he
 have:=z'G.1 hj
 split at he
 ·obtain⟨a,_,rfl⟩:=z'y.1 he
  exact this
 ·cases he
theorem ZdS {α:Type} [DecidableEq α] {mv:α→List Int} {ac:α→Int→α} {cf:List α}: ∀n:Nat,(w'C mv ac cf n).Pairwise fun a b=>a.1≤b.1
 |0=>List.Pairwise.nil
 |n+1=>by
  have e:w'C mv ac cf (n+1)=w'C mv ac cf n++(match cf[n]? with|some c=>(mv c).map fun a=>(n,a,cf.idxOf (ac c a))|none=>[]):=by
   unfold w'C
   rw[y'l,w'n,List.flatMap_cons,List.flatMap_nil,z'x]
   rfl
  have row: ∀e,e∈(match cf[n]? with|some c=>(mv c).map fun a=>(n,a,cf.idxOf (ac c a))|none=>[])→e.1=n:=fun e he=>by
   split at he
   ·obtain⟨a,_,rfl⟩:=z'y.1 he;rfl
   ·cases he
  rw[e]
  refine List.pairwise_append.2 ⟨ZdS n,?_,fun a ha b hb=>?_⟩
  ·exact List.Pairwise.imp_of_mem (fun ha hb _=>by rw[row _ ha,row _ hb];exact z'w _) (List.pairwise_of_forall (l:=(match cf[n]? with|some c=>(mv c).map fun a=>(n,a,cf.idxOf (ac c a))|none=>[])) (R:=fun _ _=>True) fun _ _=>trivial)
  ·have:=ZkE ha
   rw[row b hb];omega
theorem ZjO {u:Un} {m r b:Int} {S:Spc Cf} (h:v'k u m r b=some S) (hb:1≤b):Zbg (edS S):=by
 obtain⟨_,hE,_⟩:=Zaa h (by omega)
 unfold Zbg edS
 rw[hE]
 refine List.pairwise_map.2 ((ZdS _).imp fun h=>?_)
 show((_:Nat):Int)≤((_:Nat):Int)
 exact Int.ofNat_le.2 h
end Go.Proofs.YtfneeacgkdhldaaGreat
