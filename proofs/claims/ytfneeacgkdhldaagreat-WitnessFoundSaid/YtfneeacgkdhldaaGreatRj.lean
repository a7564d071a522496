/- Contracts: all that can act; a name's agent. No condition. -/
import Derived.Test.YtfneeacgkdhldaaGreatRg
import Derived.Test.YtfneeacgkdhldaaGreatYq
namespace Go.Proofs.YtfneeacgkdhldaaGreat
set_option maxHeartbeats 16000000
set_option linter.unusedSimpArgs false
set_option linter.unusedVariables false
set_option maxRecDepth 20000
open Go Go.Proofs Go.Vc
attribute [local irreducible] y'5 VCg VCw VCx
section
variable {u : Un} {c : Cf} {m r : Int}
def mvK (u:Un) (c:Cf) (m r:Int) (A:List Ag) (k:Nat):List Int:=((List.range k).filter fun i=>(A[i]?).any (Zbh u c m r)).map fun(i:Nat)=>(i:Int)
def x'4 (u:Un) (c:Cf) (m r:Int):List Int:=mvK u c m r (y'C u m) (y'C u m).length
theorem ZdC {A:List Ag} {k:Nat} {a:Ag} (h:A[k]?=some a):mvK u c m r A (k+1)=mvK u c m r A k++(match Zbh u c m r a with|true=>[(k:Int)]|false=>[]):=by
 simp only[mvK,y'l,y'D,z'E]
 congr 1
 cases hc:Zbh u c m r a<;>simp[h,hc]
theorem Zgi {A:List Ag} {k:Nat}:(mvK u c m r A k).length≤k:=by
 simp only[mvK,z's]
 exact y'z (List.length_filter_le _ _) (by simp)
theorem Zmm (h:Rt u c m r):Pure Tryz.prog 62 [.agg (unC u),.agg (cfC c),iD m,iD r] (z'C (x'4 u c m r)):=by
 have ca:=ZdZ u h.okU m
 have hl:=v'd u m
 unfold x'4
 generalize y'C u m=A at*
 refine Fun.freeze (Zb9 _) ?_
 refine Fun.of T [.tmp 8] Tryz.func62 rfl Tryz.ntmps62 Tryz.results62 rfl (by kernel_rfl) ?_
 repeat' first|refine vb rfl rfl rfl rfl ?_|refine vs T rfl fun K hK=>?_;(try simp (disch:=omega) only[go_sem,Nat.reduceBEq,Nat.reduceAdd,Nat.reduceLeDiff,Za2]);(first|refine hK _ _ ?_;clear hK K|refine Op1.callp rfl rfl (ca) rfl ?_;refine hK _ _ ?_;clear hK K)|refine st rfl ?_|refine nl ?_
 refine VC.loop {p:Nat×List Int×Option (Nat×Nat)//p.1≤A.length∧p.2.1=mvK u c m r A p.1} (fun p=>⟨z'J [(2,iD m),(3,iD r),(4,.pt (unC u)),(5,.pt (cfC c)),(9,.gs p.1.2.2 p.1.2.1.length),(14,.sl false 1 (Zcc A)),(15,iD (A.length:Nat)),(16,iD (p.1.1:Nat))],shp p.1.2.2 3 1 (p.1.2.1.map iD) []⟩) (fun p=>A.length-p.1.1) ⟨(0,[],none),by dsimp only;omega,rfl⟩ ?_ ?_
 ·refine Weak.sub ?_
  simp[sub,upd]
 rintro⟨⟨k,L,g⟩,hk,hL⟩
 dsimp only at hk hL⊢
 have hLl:L.length≤k:=by rw[hL];exact Zgi
 rcases z'g k A.length with hlt|hge
 case inr=>
  obtain rfl:k=A.length:=by omega
  have hd:decide ((A.length:Int)<(A.length:Int))=false:=by simp
  repeat' first|refine vs T rfl fun K hK=>?_;(try simp (disch:=omega) only[go_sem,Nat.reduceBEq,hd]);(refine hK _ _ ?_;clear hK K)|refine st rfl ?_|refine sc rfl ?_|refine nl ?_
  exact z'n T (z'p _) ⟨g,3,by rw[←hL,z'k];rfl,by rw[←hL,Zac]⟩
 have hd:decide ((k:Int)<(A.length:Int))=true:=by simp;omega
 have hw:IntKind.i64.wrap ((k:Int)+1)=((k+1:Nat):Int):=by rw[w64 (by omega)];omega
 obtain⟨ag,ha⟩: ∃x,A[k]?=some x:=⟨_,z'b (by omega)⟩
 have ra:(Zcc A)[k]?=some [agD ag]:=by rw[ZiN,ha];rfl
 have o1:=ZiM ag
 have cn:=Zkr h ag
 cases hE:Zbh u c m r ag with
 |false=>
  rw[hE]at cn
  repeat' first|refine vs T rfl fun K hK=>?_;(try simp (disch:=omega) only[go_sem,Nat.reduceBEq,Nat.reduceAdd,Nat.reduceLeDiff,hd,hw,ra,Za2]);(first|refine hK _ _ ?_;clear hK K|refine⟨?_,hK _ _ ?_⟩<;>clear hK K;focus(try omega)|refine Op1.inva rfl rfl (cn) rfl ?_;refine hK _ _ ?_;clear hK K)|refine st rfl ?_|refine sc rfl ?_|refine nl ?_
  refine⟨⟨(k+1,L,g),by dsimp only;omega,by dsimp only;rw[ZdC ha,hE,hL];simp⟩,z'v rfl ?_,by dsimp only;omega⟩
  simp[sub,upd]
 |true=>
  rw[hE]at cn
  repeat' first|refine vs T rfl fun K hK=>?_;(try simp (disch:=omega) only[go_sem,Nat.reduceBEq,Nat.reduceAdd,Nat.reduceMul,Nat.reduceLeDiff,hd,hw,ra,Za2]);(first|refine hK _ _ ?_;clear hK K|refine⟨_,_,_,_,(by repeat (exact Sp.here)),?_,(by exact⟨rfl,rfl⟩),⟨by decide,?_⟩,fun g' hg'=>hK _ _ ?_⟩<;>clear hK K|refine⟨?_,hK _ _ ?_⟩<;>clear hK K;focus(try omega)|refine Op1.inva rfl rfl (cn) rfl ?_;refine hK _ _ ?_;clear hK K)|refine st rfl ?_|refine sc rfl ?_|refine nl ?_
  ·simp
  ·omega
  ·refine⟨⟨(k+1,L++[(k:Int)],g'),by dsimp only;omega,by dsimp only;rw[ZdC ha,hE,hL]⟩,z'v ?_ ?_,by dsimp only;omega⟩
   ·dsimp only
    rw[z'E]
    rfl
   ·simp[sub,upd]
def Zdr (u:Un) (c:Cf) (m r:Int):Bool:=(!v't u c)&&decide ((x'4 u c m r).length=0)
theorem ZnD (h:Rt u c m r):Pure Tryz.prog 34 [.agg (unC u),.agg (cfC c),iD m,iD r] (bD (Zdr u c m r)):=by
 have c1:=ZhA u c (by have:=h.okU.cod;omega) (by have:=h.okC.bufs;omega)
 have c2:=Zmm h
 have he:(((x'4 u c m r).length:Int) == 0)=decide ((x'4 u c m r).length=0):=by rw[x'Y];simp
 refine Fun.of T [.tmp 8] Tryz.func34 rfl Tryz.ntmps34 Tryz.results34 rfl (by kernel_rfl) ?_
 unfold Zdr
 cases hF:v't u c with
 |true=>
  rw[hF]at c1
  repeat' first|refine vb rfl rfl rfl rfl ?_|refine vs T rfl fun K hK=>?_;(try simp (disch:=omega) only[go_sem,Nat.reduceBEq,Nat.reduceAdd,Nat.reduceLeDiff,z'l]);(first|refine hK _ _ ?_;clear hK K|refine Op1.callp rfl rfl (c1) rfl ?_;refine hK _ _ ?_;clear hK K)|refine st rfl ?_|refine nl ?_|refine gs rfl rfl ?_|exact z'n T (z'a _) ⟨rfl,rfl⟩
  all_goals rfl
 |false=>
  rw[hF]at c1
  repeat' first|refine vb rfl rfl rfl rfl ?_|refine vs T rfl fun K hK=>?_;(try simp (disch:=omega) only[go_sem,Nat.reduceBEq,Nat.reduceAdd,Nat.reduceLeDiff,z'r,he,z'k]);(first|refine hK _ _ ?_;clear hK K|refine Op1.callp rfl rfl (c1) rfl ?_;refine hK _ _ ?_;clear hK K|refine Op1.callp rfl rfl (c2) rfl ?_;refine hK _ _ ?_;clear hK K)|refine st rfl ?_|refine nl ?_|refine gs rfl rfl ?_|exact z'n T (z'a _) ⟨rfl,rfl⟩
  all_goals rfl
end
theorem Zcj {α:Type} (f:Nat→Nat→α) (L:Nat): ∀n,((List.range n).flatMap fun t=>(List.range L).map (f t)).length=n*L
 |0=>by simp
 |n+1=>by
  rw[y'l,w'n,z'o,Zcj f L n]
  simp[Nat.succ_mul]
theorem Zi1 {α:Type} (f:Nat→Nat→α) {L:Nat} (hL:0<L): ∀n i,i<n*L→((List.range n).flatMap fun t=>(List.range L).map (f t))[i]?=some (f (i/L) (i % L))
 |0,i,h=>by omega
 |n+1,i,h=>by
  rw[y'l,w'n]
  rcases z'g i (n*L)with h'|h'
  ·rw[z'9 (by rw[Zcj];exact h'),Zi1 f hL n i h']
  ·rw[w'4 (by rw[Zcj];exact h'),Zcj]
   have h2:i-n*L<L:=by rw[Nat.succ_mul]at h;omega
   have h3:i=L*n+(i-n*L):=by rw[Nat.mul_comm];omega
   have h4:i/L=n:=by rw[h3,Nat.mul_add_div hL,Nat.div_eq_of_lt h2];rfl
   have h5:i % L=i-n*L:=by rw[h3,Nat.mul_add_mod,Nat.mod_eq_of_lt h2];omega
   simp[h2,h4,h5]
theorem ZoY {u:Un} (h:y't u=true):y'C u 1=Zbw u.regs.length:=by
 rw[y'C,if_pos ⟨h,by omega,by omega⟩,ZbA]
 have:(List.range u.regs.length).flatMap (Zdw u 1)=[]:=by
  rw[List.flatMap_eq_nil_iff]
  intro t _
  simp[Zdw]
 rw[this,z'x]
theorem Zkj {u:Un} (h:y't u=true):y'C u 2=Zbw u.regs.length++(List.range u.regs.length).map fun t=> .fl t (-1):=by
 rw[y'C,if_pos ⟨h,by omega,by omega⟩,ZbA]
 congr 1
 rw[List.map_eq_flatMap]
 rfl
theorem Zkk {u:Un} (h:y't u=true):y'C u 3=Zbw u.regs.length++(List.range u.regs.length).flatMap fun t=>(List.range u.init.length).map fun l=> .fl t (l:Int):=by
 rw[y'C,if_pos ⟨h,by omega,by omega⟩,ZbA]
 rfl
theorem Zf8 {u:Un} {m:Int} (h: ¬(y't u=true∧1≤m∧m≤3)):y'C u m=[]:=if_neg h
theorem ZiQ {u:Un} (h:y't u=true):(y'C u 1).length=u.regs.length:=by rw[ZoY h,v'T]
theorem ZiR {u:Un} (h:y't u=true):(y'C u 2).length=2*u.regs.length:=by rw[Zkj h,z'o,v'T,z's,List.length_range];omega
theorem ZiS {u:Un} (h:y't u=true):(y'C u 3).length=u.regs.length+u.regs.length*u.init.length:=by rw[Zkk h,z'o,v'T,Zcj]
theorem ZpL {n i:Nat} (h:i<n) (l:List Ag):(Zbw n++l)[i]?=some (.th i):=by
 rw[z'9 (by rw[v'T];exact h)]
 simp[Zbw,h]
theorem Zim {n i:Nat} (h:n≤i) (l:List Ag):(Zbw n++l)[i]?=l[i-n]?:=by rw[w'4 (by rw[v'T];exact h),v'T]
theorem Zb8 (u:Un) (hu:OkU u) (m:Int):Pure Tryz.prog 8 [.agg (unC u),iD m] (iD ((y'C u m).length:Nat)):=by
 have cu:=ZdF u hu
 refine Fun.of T [.tmp 4] Tryz.func8 rfl Tryz.ntmps8 Tryz.results8 rfl (by kernel_rfl) ?_
 cases hU:y't u with
 |false=>
  rw[hU]at cu
  rw[Zf8 (by simp[hU])]
  repeat' first|refine vb rfl rfl rfl rfl ?_|refine vs T rfl fun K hK=>?_;(try simp (disch:=omega) only[go_sem,Nat.reduceBEq,Nat.reduceAdd,Nat.reduceLeDiff,z'r]);(first|refine hK _ _ ?_;clear hK K|refine Op1.callp rfl rfl (cu) rfl ?_;refine hK _ _ ?_;clear hK K)|refine st rfl ?_|refine sc rfl ?_|refine nl ?_|exact z'n T (z'a _) ⟨rfl,rfl⟩
  all_goals rfl
 |true=>
 rw[hU]at cu
 obtain⟨kn,ki,k0⟩:=Zeo hU
 by_cases m1:m=1
 ·have f1:(m == 1)=true:=by simpa using m1
  have hc:(y'C u m).length=u.regs.length:=by subst m1;exact ZiQ hU
  rw[hc]
  repeat' first|refine vb rfl rfl rfl rfl ?_|refine vs T rfl fun K hK=>?_;(try simp (disch:=omega) only[go_sem,Nat.reduceBEq,Nat.reduceAdd,Nat.reduceLeDiff,f1,z'k,z'l]);(first|refine hK _ _ ?_;clear hK K|refine Op1.callp rfl rfl (cu) rfl ?_;refine hK _ _ ?_;clear hK K)|refine st rfl ?_|refine sc rfl ?_|refine nl ?_|exact z'n T (z'a _) ⟨rfl,rfl⟩
 have f1:(m == 1)=false:=by simpa using m1
 by_cases m2:m=2
 ·have f2:(m == 2)=true:=by simpa using m2
  have hw:IntKind.i64.wrap (2*(u.regs.length:Int))=((2*u.regs.length:Nat):Int):=by rw[w64 (by omega)];omega
  have hc:(y'C u m).length=2*u.regs.length:=by subst m2;exact ZiR hU
  rw[hc]
  repeat' first|refine vb rfl rfl rfl rfl ?_|refine vs T rfl fun K hK=>?_;(try simp (disch:=omega) only[go_sem,Nat.reduceBEq,Nat.reduceAdd,Nat.reduceLeDiff,f1,f2,hw,z'k,z'l]);(first|refine hK _ _ ?_;clear hK K|refine Op1.callp rfl rfl (cu) rfl ?_;refine hK _ _ ?_;clear hK K)|refine st rfl ?_|refine sc rfl ?_|refine nl ?_|exact z'n T (z'a _) ⟨rfl,rfl⟩
 have f2:(m == 2)=false:=by simpa using m2
 by_cases m3:m=3
 ·have f3:(m == 3)=true:=by simpa using m3
  have hb:u.regs.length*u.init.length≤4*6:=Nat.mul_le_mul kn ki
  have hw1:IntKind.i64.wrap ((u.regs.length:Int)*(u.init.length:Int))=((u.regs.length*u.init.length:Nat):Int):=by
   rw[show(u.regs.length:Int)*(u.init.length:Int)=((u.regs.length*u.init.length:Nat):Int) by simp,w64 (by omega)]
  have hw2:IntKind.i64.wrap ((u.regs.length:Int)+((u.regs.length*u.init.length:Nat):Int))=((u.regs.length+u.regs.length*u.init.length:Nat):Int):=by rw[w64 (by omega)];omega
  have hc:(y'C u m).length=u.regs.length+u.regs.length*u.init.length:=by subst m3;exact ZiS hU
  rw[hc]
  repeat' first|refine vb rfl rfl rfl rfl ?_|refine vs T rfl fun K hK=>?_;(try simp (disch:=omega) only[go_sem,Nat.reduceBEq,Nat.reduceAdd,Nat.reduceLeDiff,f1,f2,f3,hw1,hw2,z'k,z'l]);(first|refine hK _ _ ?_;clear hK K|refine Op1.callp rfl rfl (cu) rfl ?_;refine hK _ _ ?_;clear hK K)|refine st rfl ?_|refine sc rfl ?_|refine nl ?_|exact z'n T (z'a _) ⟨rfl,rfl⟩
 have f3:(m == 3)=false:=by simpa using m3
 rw[Zf8 (by omega)]
 repeat' first|refine vb rfl rfl rfl rfl ?_|refine vs T rfl fun K hK=>?_;(try simp (disch:=omega) only[go_sem,Nat.reduceBEq,Nat.reduceAdd,Nat.reduceLeDiff,f1,f2,f3,z'k,z'l]);(first|refine hK _ _ ?_;clear hK K|refine Op1.callp rfl rfl (cu) rfl ?_;refine hK _ _ ?_;clear hK K)|refine st rfl ?_|refine sc rfl ?_|refine nl ?_|exact z'n T (z'a _) ⟨rfl,rfl⟩
 all_goals rfl
def c11:Cf:=⟨[0,0],[[],[]],[0,0],[[],[]]⟩
def e11:Cf:=⟨[1,0],[[],[]],[1,0],[[],[]]⟩
end Go.Proofs.YtfneeacgkdhldaaGreat
