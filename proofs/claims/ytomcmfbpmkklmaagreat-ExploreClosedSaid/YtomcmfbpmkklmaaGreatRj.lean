/- Contracts: all that can act; a name's agent. No condition. -/
import Derived.Test.YtomcmfbpmkklmaaGreatRg
import Derived.Test.YtomcmfbpmkklmaaGreatYq
namespace Go.Proofs.YtomcmfbpmkklmaaGreat
set_option maxHeartbeats 16000000
set_option linter.unusedSimpArgs false
set_option linter.unusedVariables false
set_option maxRecDepth 20000
open Go Go.Proofs Go.Vc
attribute [local irreducible] y'0 VCg VCw VCx
section
variable {u : Un} {c : Cf} {m r : Int}
def mvK (u:Un) (c:Cf) (m r:Int) (A:List Ag) (k:Nat):List Int:=((List.range k).filter fun i=>(A[i]?).any (ZaN u c m r)).map fun(i:Nat)=>(i:Int)
def y'6 (u:Un) (c:Cf) (m r:Int):List Int:=mvK u c m r (y'N u m) (y'N u m).length
theorem ZdQ {A:List Ag} {k:Nat} {a:Ag} (h:A[k]?=some a):mvK u c m r A (k+1)=mvK u c m r A k++(match ZaN u c m r a with|true=>[(k:Int)]|false=>[]):=by
 simp only[mvK,y'p,y'r,z'F]
 congr 1
 cases hc:ZaN u c m r a<;>simp[h,hc]
theorem ZgY {A:List Ag} {k:Nat}:(mvK u c m r A k).length≤k:=by
 simp only[mvK,z'p]
 exact y'H (List.length_filter_le _ _) (by simp)
theorem ZfJ (h:Rt u c m r):Pure Tryz.prog 84 [.agg (unC u),.agg (cfC c),iD m,iD r] (z'S (y'6 u c m r)):=by
 have ca:=ZeP u h.okU m
 have hl:=v'J u m
 unfold y'6
 generalize y'N u m=A at*
 refine Fun.freeze (ZdH _) ?_
 refine Fun.of T [.tmp 8] Tryz.func84 rfl Tryz.ntmps84 Tryz.results84 rfl (by kernel_rfl) ?_
 repeat' first|refine vb rfl rfl rfl rfl ?_|refine vs T rfl fun K hK=>?_;(try simp (disch:=omega) only[go_sem,Nat.reduceBEq,Nat.reduceAdd,Nat.reduceLeDiff,Zbo]);(first|refine hK _ _ ?_;clear hK K|refine Op1.callp rfl rfl (ca) rfl ?_;refine hK _ _ ?_;clear hK K)|refine st rfl ?_|refine nl ?_
 refine VC.loop {p:Nat×List Int×Option (Nat×Nat)//p.1≤A.length∧p.2.1=mvK u c m r A p.1} (fun p=>⟨z'M [(2,iD m),(3,iD r),(4,.pt (unC u)),(5,.pt (cfC c)),(9,.gs p.1.2.2 p.1.2.1.length),(14,.sl false 1 (Zc3 A)),(15,iD (A.length:Nat)),(16,iD (p.1.1:Nat))],shp p.1.2.2 3 1 (p.1.2.1.map iD) []⟩) (fun p=>A.length-p.1.1) ⟨(0,[],none),by dsimp only;omega,rfl⟩ ?_ ?_
 ·refine Weak.sub ?_
  simp[sub,upd]
 rintro⟨⟨k,L,g⟩,hk,hL⟩
 dsimp only at hk hL⊢
 have hLl:L.length≤k:=by rw[hL];exact ZgY
 rcases z'g k A.length with hlt|hge
 case inr=>
  obtain rfl:k=A.length:=by omega
  have hd:decide ((A.length:Int)<(A.length:Int))=false:=by simp
  repeat' first|refine vs T rfl fun K hK=>?_;(try simp (disch:=omega) only[go_sem,Nat.reduceBEq,hd]);(refine hK _ _ ?_;clear hK K)|refine st rfl ?_|refine sc rfl ?_|refine nl ?_
  exact z'j T (z'm _) ⟨g,3,by rw[←hL,z'l];rfl,by rw[←hL,Zf3]⟩
 have hd:decide ((k:Int)<(A.length:Int))=true:=by simp;omega
 have hw:IntKind.i64.wrap ((k:Int)+1)=((k+1:Nat):Int):=by rw[w64 (by omega)];omega
 obtain⟨ag,ha⟩: ∃x,A[k]?=some x:=⟨_,z'b (by omega)⟩
 have ra:(Zc3 A)[k]?=some [agD ag]:=by rw[ZjL,ha];rfl
 have o1:=ZjD ag
 have cn:=Zo6 h ag
 cases hE:ZaN u c m r ag with
 |false=>
  rw[hE]at cn
  repeat' first|refine vs T rfl fun K hK=>?_;(try simp (disch:=omega) only[go_sem,Nat.reduceBEq,Nat.reduceAdd,Nat.reduceLeDiff,hd,hw,ra,Zbo]);(first|refine hK _ _ ?_;clear hK K|refine⟨?_,hK _ _ ?_⟩<;>clear hK K;focus(try omega)|refine Op1.inva rfl rfl (cn) rfl ?_;refine hK _ _ ?_;clear hK K)|refine st rfl ?_|refine sc rfl ?_|refine nl ?_
  refine⟨⟨(k+1,L,g),by dsimp only;omega,by dsimp only;rw[ZdQ ha,hE,hL];simp⟩,z'G rfl ?_,by dsimp only;omega⟩
  simp[sub,upd]
 |true=>
  rw[hE]at cn
  repeat' first|refine vs T rfl fun K hK=>?_;(try simp (disch:=omega) only[go_sem,Nat.reduceBEq,Nat.reduceAdd,Nat.reduceMul,Nat.reduceLeDiff,hd,hw,ra,Zbo]);(first|refine hK _ _ ?_;clear hK K|refine⟨_,_,_,_,(by repeat (exact Sp.here)),?_,(by exact⟨rfl,rfl⟩),⟨by decide,?_⟩,fun g' hg'=>hK _ _ ?_⟩<;>clear hK K|refine⟨?_,hK _ _ ?_⟩<;>clear hK K;focus(try omega)|refine Op1.inva rfl rfl (cn) rfl ?_;refine hK _ _ ?_;clear hK K)|refine st rfl ?_|refine sc rfl ?_|refine nl ?_
  ·simp
  ·omega
  ·refine⟨⟨(k+1,L++[(k:Int)],g'),by dsimp only;omega,by dsimp only;rw[ZdQ ha,hE,hL]⟩,z'G ?_ ?_,by dsimp only;omega⟩
   ·dsimp only
    rw[z'F]
    rfl
   ·simp[sub,upd]
def v'R (u:Un) (c:Cf) (m r:Int):Bool:=(!x'8 u c)&&decide ((y'6 u c m r).length=0)
theorem ZoU (h:Rt u c m r):Pure Tryz.prog 96 [.agg (unC u),.agg (cfC c),iD m,iD r] (bD (v'R u c m r)):=by
 have c1:=Zh0 u c (by have:=h.okU.cod;omega) (by have:=h.okC.bufs;omega)
 have c2:=ZfJ h
 have he:(((y'6 u c m r).length:Int) == 0)=decide ((y'6 u c m r).length=0):=by rw[x'l];simp
 refine Fun.of T [.tmp 8] Tryz.func96 rfl Tryz.ntmps96 Tryz.results96 rfl (by kernel_rfl) ?_
 unfold v'R
 cases hF:x'8 u c with
 |true=>
  rw[hF]at c1
  repeat' first|refine vb rfl rfl rfl rfl ?_|refine vs T rfl fun K hK=>?_;(try simp (disch:=omega) only[go_sem,Nat.reduceBEq,Nat.reduceAdd,Nat.reduceLeDiff,z'i]);(first|refine hK _ _ ?_;clear hK K|refine Op1.callp rfl rfl (c1) rfl ?_;refine hK _ _ ?_;clear hK K)|refine st rfl ?_|refine nl ?_|refine gs rfl rfl ?_|exact z'j T (z'a _) ⟨rfl,rfl⟩
  all_goals rfl
 |false=>
  rw[hF]at c1
  repeat' first|refine vb rfl rfl rfl rfl ?_|refine vs T rfl fun K hK=>?_;(try simp (disch:=omega) only[go_sem,Nat.reduceBEq,Nat.reduceAdd,Nat.reduceLeDiff,z'q,he,z'l]);(first|refine hK _ _ ?_;clear hK K|refine Op1.callp rfl rfl (c1) rfl ?_;refine hK _ _ ?_;clear hK K|refine Op1.callp rfl rfl (c2) rfl ?_;refine hK _ _ ?_;clear hK K)|refine st rfl ?_|refine nl ?_|refine gs rfl rfl ?_|exact z'j T (z'a _) ⟨rfl,rfl⟩
  all_goals rfl
end
theorem ZcT {α:Type} (f:Nat→Nat→α) (L:Nat): ∀n,((List.range n).flatMap fun t=>(List.range L).map (f t)).length=n*L
 |0=>by simp
 |n+1=>by
  rw[y'p,w'd,z'k,ZcT f L n]
  simp[Nat.succ_mul]
theorem ZjB {α:Type} (f:Nat→Nat→α) {L:Nat} (hL:0<L): ∀n i,i<n*L→((List.range n).flatMap fun t=>(List.range L).map (f t))[i]?=some (f (i/L) (i % L))
 |0,i,h=>by omega
 |n+1,i,h=>by
  rw[y'p,w'd]
  rcases z'g i (n*L)with h'|h'
  ·rw[y'f (by rw[ZcT];exact h'),ZjB f hL n i h']
  ·rw[v'q (by rw[ZcT];exact h'),ZcT]
   have h2:i-n*L<L:=by rw[Nat.succ_mul]at h;omega
   have h3:i=L*n+(i-n*L):=by rw[Nat.mul_comm];omega
   have h4:i/L=n:=by rw[h3,Nat.mul_add_div hL,Nat.div_eq_of_lt h2];rfl
   have h5:i % L=i-n*L:=by rw[h3,Nat.mul_add_mod,Nat.mod_eq_of_lt h2];omega
   simp[h2,h4,h5]
theorem ZpZ {u:Un} (h:z'8 u=true):y'N u 1=ZbP u.regs.length:=by
 rw[y'N,if_pos ⟨h,by omega,by omega⟩,Zb5]
 have:(List.range u.regs.length).flatMap (ZbW u 1)=[]:=by
  rw[List.flatMap_eq_nil_iff]
  intro t _
  simp[ZbW]
 rw[this,z'r]
theorem Zlg {u:Un} (h:z'8 u=true):y'N u 2=ZbP u.regs.length++(List.range u.regs.length).map fun t=> .fl t (-1):=by
 rw[y'N,if_pos ⟨h,by omega,by omega⟩,Zb5]
 congr 1
 rw[List.map_eq_flatMap]
 rfl
theorem Zla {u:Un} (h:z'8 u=true):y'N u 3=ZbP u.regs.length++(List.range u.regs.length).flatMap fun t=>(List.range u.init.length).map fun l=> .fl t (l:Int):=by
 rw[y'N,if_pos ⟨h,by omega,by omega⟩,Zb5]
 rfl
theorem Zg3 {u:Un} {m:Int} (h: ¬(z'8 u=true∧1≤m∧m≤3)):y'N u m=[]:=if_neg h
theorem Zjy {u:Un} (h:z'8 u=true):(y'N u 1).length=u.regs.length:=by rw[ZpZ h,Zad]
theorem ZjC {u:Un} (h:z'8 u=true):(y'N u 2).length=2*u.regs.length:=by rw[Zlg h,z'k,Zad,z'p,List.length_range];omega
theorem ZjW {u:Un} (h:z'8 u=true):(y'N u 3).length=u.regs.length+u.regs.length*u.init.length:=by rw[Zla h,z'k,Zad,ZcT]
theorem Zpi {n i:Nat} (h:i<n) (l:List Ag):(ZbP n++l)[i]?=some (.th i):=by
 rw[y'f (by rw[Zad];exact h)]
 simp[ZbP,h]
theorem Zh5 {n i:Nat} (h:n≤i) (l:List Ag):(ZbP n++l)[i]?=l[i-n]?:=by rw[v'q (by rw[Zad];exact h),Zad]
theorem ZdK (u:Un) (hu:OkU u) (m:Int):Pure Tryz.prog 88 [.agg (unC u),iD m] (iD ((y'N u m).length:Nat)):=by
 have cu:=ZcF u hu
 refine Fun.of T [.tmp 4] Tryz.func88 rfl Tryz.ntmps88 Tryz.results88 rfl (by kernel_rfl) ?_
 cases hU:z'8 u with
 |false=>
  rw[hU]at cu
  rw[Zg3 (by simp[hU])]
  repeat' first|refine vb rfl rfl rfl rfl ?_|refine vs T rfl fun K hK=>?_;(try simp (disch:=omega) only[go_sem,Nat.reduceBEq,Nat.reduceAdd,Nat.reduceLeDiff,z'q]);(first|refine hK _ _ ?_;clear hK K|refine Op1.callp rfl rfl (cu) rfl ?_;refine hK _ _ ?_;clear hK K)|refine st rfl ?_|refine sc rfl ?_|refine nl ?_|exact z'j T (z'a _) ⟨rfl,rfl⟩
  all_goals rfl
 |true=>
 rw[hU]at cu
 obtain⟨kn,ki,k0⟩:=Zc4 hU
 by_cases m1:m=1
 ·have f1:(m == 1)=true:=by simpa using m1
  have hc:(y'N u m).length=u.regs.length:=by subst m1;exact Zjy hU
  rw[hc]
  repeat' first|refine vb rfl rfl rfl rfl ?_|refine vs T rfl fun K hK=>?_;(try simp (disch:=omega) only[go_sem,Nat.reduceBEq,Nat.reduceAdd,Nat.reduceLeDiff,f1,z'l,z'i]);(first|refine hK _ _ ?_;clear hK K|refine Op1.callp rfl rfl (cu) rfl ?_;refine hK _ _ ?_;clear hK K)|refine st rfl ?_|refine sc rfl ?_|refine nl ?_|exact z'j T (z'a _) ⟨rfl,rfl⟩
 have f1:(m == 1)=false:=by simpa using m1
 by_cases m2:m=2
 ·have f2:(m == 2)=true:=by simpa using m2
  have hw:IntKind.i64.wrap (2*(u.regs.length:Int))=((2*u.regs.length:Nat):Int):=by rw[w64 (by omega)];omega
  have hc:(y'N u m).length=2*u.regs.length:=by subst m2;exact ZjC hU
  rw[hc]
  repeat' first|refine vb rfl rfl rfl rfl ?_|refine vs T rfl fun K hK=>?_;(try simp (disch:=omega) only[go_sem,Nat.reduceBEq,Nat.reduceAdd,Nat.reduceLeDiff,f1,f2,hw,z'l,z'i]);(first|refine hK _ _ ?_;clear hK K|refine Op1.callp rfl rfl (cu) rfl ?_;refine hK _ _ ?_;clear hK K)|refine st rfl ?_|refine sc rfl ?_|refine nl ?_|exact z'j T (z'a _) ⟨rfl,rfl⟩
 have f2:(m == 2)=false:=by simpa using m2
 by_cases m3:m=3
 ·have f3:(m == 3)=true:=by simpa using m3
  have hb:u.regs.length*u.init.length≤4*6:=Nat.mul_le_mul kn ki
  have hw1:IntKind.i64.wrap ((u.regs.length:Int)*(u.init.length:Int))=((u.regs.length*u.init.length:Nat):Int):=by
   rw[show(u.regs.length:Int)*(u.init.length:Int)=((u.regs.length*u.init.length:Nat):Int) by simp,w64 (by omega)]
  have hw2:IntKind.i64.wrap ((u.regs.length:Int)+((u.regs.length*u.init.length:Nat):Int))=((u.regs.length+u.regs.length*u.init.length:Nat):Int):=by rw[w64 (by omega)];omega
  have hc:(y'N u m).length=u.regs.length+u.regs.length*u.init.length:=by subst m3;exact ZjW hU
  rw[hc]
  repeat' first|refine vb rfl rfl rfl rfl ?_|refine vs T rfl fun K hK=>?_;(try simp (disch:=omega) only[go_sem,Nat.reduceBEq,Nat.reduceAdd,Nat.reduceLeDiff,f1,f2,f3,hw1,hw2,z'l,z'i]);(first|refine hK _ _ ?_;clear hK K|refine Op1.callp rfl rfl (cu) rfl ?_;refine hK _ _ ?_;clear hK K)|refine st rfl ?_|refine sc rfl ?_|refine nl ?_|exact z'j T (z'a _) ⟨rfl,rfl⟩
 have f3:(m == 3)=false:=by simpa using m3
 rw[Zg3 (by omega)]
 repeat' first|refine vb rfl rfl rfl rfl ?_|refine vs T rfl fun K hK=>?_;(try simp (disch:=omega) only[go_sem,Nat.reduceBEq,Nat.reduceAdd,Nat.reduceLeDiff,f1,f2,f3,z'l,z'i]);(first|refine hK _ _ ?_;clear hK K|refine Op1.callp rfl rfl (cu) rfl ?_;refine hK _ _ ?_;clear hK K)|refine st rfl ?_|refine sc rfl ?_|refine nl ?_|exact z'j T (z'a _) ⟨rfl,rfl⟩
 all_goals rfl
def e11:Cf:=⟨[1,0],[[],[]],[1,0],[[],[]]⟩
end Go.Proofs.YtomcmfbpmkklmaaGreat
