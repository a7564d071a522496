/- A table of texts with open addressing, in plain Lean. No condition. -/
import Derived.Test.YtjlnkedmbfdofaaGreatWb
namespace Go.Proofs.YtjlnkedmbfdofaaGreat
set_option linter.unusedSimpArgs false
set_option linter.unusedVariables false
set_option linter.unusedSectionVars false
open Go Go.Proofs Go.Vc
attribute [local irreducible] z'Z VCg VCw VCx
section
variable {β : Type} [DecidableEq β]
def Za2 (T:List β) (S:List Int) (s:β) (p:Nat):Bool:=match S.getD p 0 with
 |0=>true
 |n=>decide (T[(n-1).toNat]?=some s)
def v's (T:List β) (S:List Int) (h:Nat) (s:β):Nat:=((List.range S.length).find? fun j=>Za2 T S s ((h+j) % S.length)).getD 0
def Zb6 (T:List β) (S:List Int) (h:Nat) (s:β):Nat:=(h+v's T S h s) % S.length
structure TI (hm:β→Nat) (T:List β) (S:List Int) (n:Nat):Prop where
 nT:n≤T.length
 nd:T.Nodup
 free:S.count 0+n=S.length
 val: ∀(p:Nat) (v:Int),S[p]?=some v→v=0∨ ∃i:Nat,i<n∧v=(i:Int)+1
 path: ∀(i:Nat) s,i<n→T[i]?=some s→ ∃j,j<S.length∧S[(hm s+j) % S.length]?=some ((i:Int)+1)∧ ∀j',j'<j→ ∃v,S[(hm s+j') % S.length]?=some v∧v≠0∧v≠(i:Int)+1
theorem Zhe {S:List Int} (h:0<S.count 0) (a:Nat): ∃j,j<S.length∧S[(a+j) % S.length]?=some 0:=by
 obtain⟨p,hp,h0⟩:=List.mem_iff_getElem.1 (List.count_pos_iff.1 h)
 have hm:0<S.length:=by omega
 have ha:=Nat.mod_lt a hm
 refine⟨(p+S.length-a % S.length) % S.length,Nat.mod_lt _ hm,?_⟩
 have:(a+(p+S.length-a % S.length) % S.length) % S.length=p:=by
  rw[Nat.add_mod_mod]
  have h1:=Nat.mod_add_div a S.length
  have:a+(p+S.length-a % S.length)=p+S.length*(a/S.length+1):=by
   rw[Nat.mul_add,y'l];omega
  rw[this,Nat.add_mul_mod_self_left,Nat.mod_eq_of_lt hp]
 rw[this,z'l hp,h0]
theorem Zhm {T:List β} {S:List Int} {s:β} {h:Nat} (hf:0<S.count 0):v's T S h s<S.length∧Za2 T S s (Zb6 T S h s)=true∧ ∀j',j'<v's T S h s→Za2 T S s ((h+j') % S.length)=false:=by
 obtain⟨j0,h0,h1⟩:=Zhe hf h
 have hs0:Za2 T S s ((h+j0) % S.length)=true:=by
  unfold Za2
  rw[z'e,h1];rfl
 cases hq:(List.range S.length).find? (fun j=>Za2 T S s ((h+j) % S.length))with
 |none=>
  rw[List.find?_eq_none]at hq
  exact absurd hs0 (hq j0 (z'J.2 h0))
 |some j=>
  have he:v's T S h s=j:=by unfold v's;rw[hq];rfl
  rw[List.find?_eq_some_iff_getElem]at hq
  obtain⟨a1,i,a2,a3,a4⟩:=hq
  simp at a3 a2
  subst a3
  unfold Zb6
  rw[he]
  refine⟨a2,a1,fun j' hj'=>?_⟩
  have:=a4 j' hj'
  simpa using this
theorem ZkP {l:List β} (hn:l.Nodup) {i j:Nat} {x:β} (h1:l[i]?=some x) (h2:l[j]?=some x):i=j:=by
 obtain⟨a1,a2⟩:=z's.1 h1
 obtain⟨b1,b2⟩:=z's.1 h2
 exact(List.getElem_inj hn).1 (a2.trans b2.symm)
theorem ZlQ {hm:β→Nat} {T:List β} {S:List Int} {n:Nat} {s:β} (I:TI hm T S n) (hf:0<S.count 0) (hs: ∀i:Nat,i<n→T[i]?≠some s):
  S[Zb6 T S (hm s) s]?=some 0∧v's T S (hm s) s<S.length∧ ∀j',j'<v's T S (hm s) s→ ∃v,S[(hm s+j') % S.length]?=some v∧v≠0:=by
 obtain⟨h1,h2,h3⟩:=Zhm (T:=T) (S:=S) (s:=s) (h:=hm s) hf
 have hp:Zb6 T S (hm s) s<S.length:=Nat.mod_lt _ (by omega)
 obtain⟨v,hv⟩: ∃v,S[Zb6 T S (hm s) s]?=some v:=⟨_,z'l hp⟩
 refine⟨?_,h1,fun j' hj'=>?_⟩
 ·rcases I.val _ v hv with rfl|⟨k,hk,rfl⟩
  ·exact hv
  ·exfalso
   unfold Za2 at h2
   rw[z'e,hv]at h2
   simp only[z'K]at h2
   split at h2
   ·omega
   ·have e:((k:Int)+1-1).toNat=k:=by omega
    rw[e]at h2
    exact hs k hk (of_decide_eq_true h2)
 ·have hq:(hm s+j') % S.length<S.length:=Nat.mod_lt _ (by omega)
  obtain⟨w,hw⟩: ∃w,S[(hm s+j') % S.length]?=some w:=⟨_,z'l hq⟩
  refine⟨w,hw,fun h0=>?_⟩
  subst h0
  have:=h3 j' hj'
  unfold Za2 at this
  rw[z'e,hw]at this
  cases this
theorem TI.put {hm:β→Nat} {T:List β} {S:List Int} {n:Nat} {s:β} (I:TI hm T S n) (hn:T[n]?=some s) (hf:0<S.count 0):TI hm T (S.set (Zb6 T S (hm s) s) ((n:Int)+1)) (n+1):=by
 have hno: ∀i:Nat,i<n→T[i]?≠some s:=fun i hi h=>by
  have:=ZkP I.nd h hn;omega
 obtain⟨h1,h2,h3⟩:=ZlQ I hf hno
 have hp:=(z's.1 h1).1
 have hlt:=(z's.1 hn).1
 refine⟨by omega,I.nd,?_,?_,?_⟩
 ·have:=I.free
  rw[y'V,List.count_set hp]
  have e1:(S[Zb6 T S (hm s) s] == 0)=true:=by
   have:=(z's.1 h1).2
   rw[this];rfl
  have e2:(((n:Int)+1) == 0)=false:=by rw[beq_eq_false_iff_ne];omega
  rw[e1,e2]
  simp
  omega
 ·intro p v hv
  rw[List.getElem?_set]at hv
  split at hv
  ·rename_i hpp
   subst hpp
   cases hv;exact .inr ⟨n,by omega,rfl⟩
  ·rcases I.val p v hv with rfl|⟨i,hi,rfl⟩
   ·exact .inl rfl
   ·exact .inr ⟨i,by omega,rfl⟩
 ·intro i t hi ht
  rw[y'V]
  have keep: ∀(q:Nat) (v:Int),S[q]?=some v→v≠0→(S.set (Zb6 T S (hm s) s) ((n:Int)+1))[q]?=some v:=by
   intro q v hv h0
   rw[y'M]
   ·exact hv
   ·intro e;subst e;rw[h1]at hv;cases hv;exact h0 rfl
  rcases z't i n with hlt'|hge
  ·obtain⟨j,k1,k2,k3⟩:=I.path i t hlt' ht
   refine⟨j,k1,keep _ _ k2 (by omega),fun j' hj'=>?_⟩
   obtain⟨v,q1,q2,q3⟩:=k3 j' hj'
   exact⟨v,keep _ _ q1 q2,q2,q3⟩
  ·obtain rfl:i=n:=by omega
   rw[hn]at ht
   cases ht
   refine⟨v's T S (hm s) s,h2,?_,fun j' hj'=>?_⟩
   ·have:(hm s+v's T S (hm s) s) % S.length=Zb6 T S (hm s) s:=rfl
    rw[this,List.getElem?_set_self hp]
   ·obtain⟨v,q1,q2⟩:=h3 j' hj'
    refine⟨v,keep _ _ q1 q2,q2,?_⟩
    rcases I.val _ v q1 with rfl|⟨k,hk,rfl⟩
    ·exact absurd rfl q2
    ·omega
theorem TI.more {hm:β→Nat} {T:List β} {S:List Int} {n:Nat} (I:TI hm T S n) {s:β} (hs:s∉T):TI hm (T++[s]) S n:=by
 refine⟨by rw[z'r];have:=I.nT;omega,z'6.2 ⟨I.nd,by simp,fun x hx y hy=>by simp at hy;rintro rfl;exact hs (hy▸hx)⟩,I.free,I.val,fun i t hi ht=>?_⟩
 rw[y'n (by have:=I.nT;omega)]at ht
 exact I.path i t hi ht
theorem TI.none (hm:β→Nat) {T:List β} (hn:T.Nodup) (m:Nat):TI hm T (List.replicate m 0) 0:=by
 refine⟨z'Q _,hn,by simp,fun p v hv=>?_,fun i s hi=>by omega⟩
 rw[List.getElem?_replicate]at hv
 split at hv
 ·cases hv;exact .inl rfl
 ·cases hv
end
end Go.Proofs.YtjlnkedmbfdofaaGreat
