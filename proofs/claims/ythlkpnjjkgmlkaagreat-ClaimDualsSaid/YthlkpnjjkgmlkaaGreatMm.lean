/- Contracts: what is so of configurations: the reference; a case's unit and space. No condition. -/
import Derived.Test.YthlkpnjjkgmlkaaGreatLu
import Derived.Test.YthlkpnjjkgmlkaaGreatDg
import Derived.Test.YthlkpnjjkgmlkaaGreatDp
import Derived.Test.YthlkpnjjkgmlkaaGreatDh
import Derived.Test.YthlkpnjjkgmlkaaGreatXf
import Derived.Test.YthlkpnjjkgmlkaaGreatLc
import Derived.Test.YthlkpnjjkgmlkaaGreatXa
namespace Go.Proofs.YthlkpnjjkgmlkaaGreat
set_option maxHeartbeats 16000000
set_option linter.unusedSimpArgs false
set_option linter.unusedVariables false
set_option maxRecDepth 20000
open Go Go.Proofs Go.Vc
attribute [local irreducible] x'v VCg VCw VCx
def x'n (p:Cf→Bool) (C:List Cf):Int:=match C.findIdx? p with|none=> -1|some i=>i
theorem Zht {p:Cf→Bool} {C:List Cf} {k:Nat} (hk:k<C.length) (h: ∀i,i<k→p (C.getD i default)=false) (hg:p (C.getD k default)=true):x'n p C=k:=by
 unfold x'n
 have e:C.findIdx? p=some k:=by
  rw[List.findIdx?_eq_some_iff_getElem]
  have hv:=fun i (hi:i<C.length)=>(Zba (d:=(default:Cf)) (z'c hi)).symm
  refine⟨hk,by rw[hv k hk];exact hg,fun j hj=>?_⟩
  rw[hv j (by omega),h j hj];exact Bool.false_ne_true
 rw[e]
theorem ZmS {p:Cf→Bool} {C:List Cf} (h: ∀i,i<C.length→p (C.getD i default)=false):x'n p C= -1:=by
 unfold x'n
 have e:C.findIdx? p=none:=by
  rw[List.findIdx?_eq_none_iff]
  intro x hx
  obtain⟨i,hi⟩:=y'k hx
  have:=h i (z'b.1 hi).1
  rwa [Zba hi]at this
 rw[e]
theorem ZiN (p:Cf→Bool) (C:List Cf): -1≤x'n p C∧x'n p C<(C.length:Int):=by
 unfold x'n
 split
 ·omega
 ·rename_i i hi
  rw[List.findIdx?_eq_some_iff_getElem]at hi
  obtain⟨h,_⟩:=hi
  omega
def hoB (u:Un) (l:List Opc) (c:Cf):Bool:=w'1 l u.md [] c.regs c.mem&&(Zcc l u.md [] c.regs c.mem != 0)
def soB (u:Un) (l:List Opc) (fin so:Bool) (c:Cf):Bool:=(hoB u l c == so)&&(!fin||w'h u c)
structure Rs where
 holds:Bool
 has:Bool
 path:List Int
def rsR (r:Rs):List D:=[bD r.holds,bD r.has,y'r r.path]
def rs0:Rs:=⟨false,false,[]⟩
def w'j (u:Un) (C:List Cf) (P B:List Int) (kind:Int) (l:List Opc):Rs:=
 if kind<1∨kind>3 then rs0 else
  ⟨decide (0≤x'n (soB u l (decide (kind≠3)) (decide (kind=2))) C) == decide (kind=2),decide (0≤x'n (soB u l (decide (kind≠3)) (decide (kind=2))) C),
   if 0≤x'n (soB u l (decide (kind≠3)) (decide (kind=2))) C then toI C.length P B (x'n (soB u l (decide (kind≠3)) (decide (kind=2))) C)else[]⟩
theorem Zr6 {l:List Opc} {c:Cf} (hl:l.length≤1000) (hc:OkC c):OkV l [] c.regs c.mem:=⟨hl,z'A _,hc.mem,hc.regs,hc.row⟩
theorem Zhd (l:List Int) (h:l.length≤1000000):Pure Tryz.prog 38 [y'r l,y'r l] (bD true):=by
 have:=ZgJ l l h h
 rwa [decide_eq_true rfl]at this
theorem ZpL (u:Un) (hu:OkU u) (m r b:Int) (hb:b≤1000):Pure Tryz.prog 48 [.agg (unC u),iD m,iD r,iD b] (.tup [.agg (spR u m r b),iD (ZaL u m r b)]):=by
 cases hU:x'd u with
 |false=>exact Zrv u hu m r b hU
 |true=>
 cases hA:Zdq m r b with
 |false=>exact Zru u hu m r b hU hA
 |true=>exact Ztm u hu m r b hU hA hb
abbrev Zqh (p:Pg) (m r b:Int):List D:=pgC p++[iD m,iD r,iD b]
def un0:Un:=⟨0,[],[],[]⟩
abbrev Zoy:List D:=spC [] ⟨[],[],[]⟩ [] []
def mdB (p:Pg) (b:Int):Bool:=(pgL p&&decide (b≤150))&&(decide ((w'P p).1=0)&&v'G (mkU p))
def mdU (p:Pg) (b:Int):Un:=match mdB p b with|true=>mkU p|false=>un0
def Zc3 (p:Pg) (m r b:Int):List D:=match mdB p b with|true=>spR (mkU p) m r b|false=>Zoy
def Zc2 (p:Pg) (m r b:Int):Bool:=mdB p b&&decide (ZaL (mkU p) m r b=0)
theorem ZlZ {P:Program} (T:Tab P) {E:Nat→D} {H:Heap} {a a2 t:Tmp} {ty ty2:TypeId} {Φ:D→Heap→Prop} {H':Heap} {b n:Nat} {ty':TypeId} {l:List D} {b2 n2:Nat} {ty2':TypeId} {l2:List D} (ha:E a= .is (.pointer (some ⟨b,0,none⟩))) (hb:w'v H b=some (.cells ty' n l))
  (hk:(T.get ty).known=true) (hz:(T.get ty).size=l.length) (hag:(T.get ty).agg=true) (ha2:E a2= .is (.pointer (some ⟨b2,0,none⟩))) (hb2:w'v H b2=some (.cells ty2' n2 l2))
  (hk2:(T.get ty2).known=true) (hz2:(T.get ty2).size=l2.length) (hag2:(T.get ty2).agg=true) (hs:H'.Sublist H) (h:Φ (.tup [.agg l,.agg l2,E t]) H'):x'v T [.cell a ty,.cell a2 ty2,.tmp t] Φ .ret ⟨E,H⟩:=by
 unfold x'v
 exact⟨[.agg l,.agg l2,E t],H',⟨b,ty',n,l,_,ha,x'Q hb,hk,hz,by rw[hag],⟨b2,ty2',n2,l2,_,ha2,x'Q hb2,hk2,hz2,by rw[hag2],_,rfl,rfl⟩⟩,hs,h⟩
theorem Zta {o:Oper} {E:Operand→D} {H:Heap} {J:D→Heap→Prop} (h: ∀K:D→Heap→Prop,(∀d H',J d H'→K d H')→opC T o E H K):OpS Tryz.prog o E H J:=
 let ⟨_,q1,q2⟩:=v'R T (h J fun _ _ h=>h);q1.mono q2
theorem ZjM (p:Pg) (m r b:Int):Pure Tryz.prog 21 [.agg (Zqh p m r b)] (.tup [.agg (unC (mdU p b)),.agg (Zc3 p m r b),bD (Zc2 p m r b)]):=by
 have c1:=Zon p
 refine Fun.fz ?_
 refine Fun.of T [.cell 2 32,.cell 3 57,.tmp 4] Tryz.func21 rfl Tryz.ntmps21 Tryz.results21 rfl (by kernel_rfl) ?_
 cases h1:pgL p&&decide (b≤150)with
 |false=>
  rw[show mdU p b=un0 by rw[mdU,mdB,h1];rfl,show Zc3 p m r b=Zoy by rw[Zc3,mdB,h1];rfl,show Zc2 p m r b=false by rw[Zc2,mdB,h1];rfl]
  simp only[v'd,decide_eq_false_iff_not]at h1
  repeat' first|refine vb (t:=52) rfl rfl rfl rfl ?_|refine vs T rfl fun K hK=>?_;(try simp (disch:=omega) only[go_sem,Nat.reduceBEq,Nat.reduceAdd,Nat.reduceLeDiff]);(first|refine hK _ _ ?_;clear hK K|intro bq hbq;(try simp only[HB]at hbq);refine hK _ _ ?_;clear hK K|refine Op1.callp rfl rfl (c1) rfl ?_;refine hK _ _ ?_;clear hK K|skip)|refine st rfl ?_|refine sc rfl ?_|refine nl ?_|refine gs rfl rfl ?_|with_reducible refine z'n (fun hc=>?_) (fun hc=>?_)<;>(try simp only[decide_eq_true_eq,decide_eq_false_iff_not,z'x,z'B,gt_iff_lt,z'w]at hc)
  all_goals first
   |(exfalso;rcases h1 with h|h<;>simp_all<;>omega)
   |(refine ZlZ T rfl (by(try simp (disch:=omega) only[hget_ne,hget_eq]);rfl) rfl rfl rfl rfl (by(try simp (disch:=omega) only[hget_ne,hget_eq]);rfl) rfl rfl rfl (z'a _) ?_;exact⟨_,rfl,z'u ⟨_,rfl,z'u (Fz.refl _ _) (z'u z'1 (z'u z'1 (z'u z'1 x'9)))⟩ (z'u ⟨_,rfl,z'u z'1 (z'u z'1 (z'u z'1 (z'u z'1 (z'u z'1 (z'u z'1 x'9)))))⟩ (FzL.refl _ _))⟩)
 |true=>
 have hM:mdB p b=(decide ((w'P p).1=0)&&v'G (mkU p)):=by rw[mdB,h1];rfl
 simp only[z'f,decide_eq_true_eq]at h1
 rw[h1.1]at c1
 have c2:=Zq3 p (Zus h1.1)
 have f1:decide (b>150)=false:=decide_eq_false (by omega)
 have c3:=Zp8 (mkU p)
 cases hN:decide ((w'P p).1=0)&&v'G (mkU p)with
 |false=>
  rw[hN]at hM
  rw[show mdU p b=un0 by rw[mdU,hM],show Zc3 p m r b=Zoy by rw[Zc3,hM],show Zc2 p m r b=false by rw[Zc2,hM];rfl]
  simp only[v'd,decide_eq_false_iff_not]at hN
  repeat' first|refine vb (t:=52) rfl rfl rfl rfl ?_|refine vs T rfl fun K hK=>?_;(try simp (disch:=omega) only[go_sem,Nat.reduceBEq,Nat.reduceAdd,Nat.reduceLeDiff,f1,z'P]);(first|refine hK _ _ ?_;clear hK K|intro bq hbq;(try simp only[HB]at hbq);refine hK _ _ ?_;clear hK K|refine Op1.callp rfl rfl (c1) rfl ?_;refine hK _ _ ?_;clear hK K|refine Op1.callp rfl rfl (c2) rfl ?_;refine hK _ _ ?_;clear hK K|refine Op1.callp rfl rfl (c3) rfl ?_;refine hK _ _ ?_;clear hK K|skip)|refine st rfl ?_|refine sc rfl ?_|refine nl ?_|refine gs rfl rfl ?_|with_reducible refine z'n (fun hc=>?_) (fun hc=>?_)<;>(try simp only[bne_iff_ne,bne_eq_false_iff_eq,ne_eq,z'x,z'B]at hc)
  all_goals first
   |(exfalso;rcases hN with h|h<;>simp_all;done)
   |(refine ZlZ T rfl (by(try simp (disch:=omega) only[hget_ne,hget_eq]);rfl) rfl rfl rfl rfl (by(try simp (disch:=omega) only[hget_ne,hget_eq]);rfl) rfl rfl rfl (z'a _) ?_;exact⟨_,rfl,z'u ⟨_,rfl,z'u (Fz.refl _ _) (z'u z'1 (z'u z'1 (z'u z'1 x'9)))⟩ (z'u ⟨_,rfl,z'u z'1 (z'u z'1 (z'u z'1 (z'u z'1 (z'u z'1 (z'u z'1 x'9)))))⟩ (FzL.refl _ _))⟩)
 |true=>
 rw[hN]at hM
 rw[show mdU p b=mkU p by rw[mdU,hM],show Zc3 p m r b=spR (mkU p) m r b by rw[Zc3,hM],show Zc2 p m r b=decide (ZaL (mkU p) m r b=0) by rw[Zc2,hM];rfl]
 simp only[z'f,decide_eq_true_eq]at hN
 rw[hN.2]at c3
 have f2:((w'P p).1 != 0)=false:=bne_eq_false_iff_eq.2 hN.1
 have c4:=ZpL (mkU p) (ZjR hN.2) m r b (by omega)
 obtain⟨C,g,P,B,hsp⟩: ∃C g P B,spR (mkU p) m r b=spC C g P B:=by
  unfold spR
  split
  ·split
   ·exact⟨_,_,_,_,rfl⟩
   ·exact⟨_,_,_,_,rfl⟩
  ·exact⟨_,_,_,_,rfl⟩
 rw[hsp]at c4⊢
 have g1:(ZaL (mkU p) m r b == 0)=decide (ZaL (mkU p) m r b=0):=by rw[x'g];simp
 repeat' first|refine vb (t:=52) rfl rfl rfl rfl ?_|refine VC.drawS (id:=7) (by kernel_rfl) ?_|refine mq2 (z'X @f1 @f2) (x'f c1 c2 c3 c4) ?_|refine mqn fun bq hbq=>?_|fail
 rename_i b2 _ b3 _ b5 _
 generalize ZaL (mkU p) m r b=er at*
 refine VCd.sim (fun L E H=>((E 2=ptB b2∧E 3=ptB b3)∧(E 5=ptB b5∧E 8=ptB bq)∧E 9=iD er)∧(L 0→E 48= .agg (unC (mkU p)))∧(L 1→E 49= .agg (spC C g P B))∧(L 2→E 50=iD er)∧(L 3→E 51=bD (er == 0))∧
  ∃l2 l3:List D,H=[(bq,.cells 57 6 (spC C g P B)),(b5,.cells 32 4 (unC (mkU p))),(b3,.cells 57 6 l3),(b2,.cells 32 4 l2)]∧(l2.length=4∧l3.length=6)∧(L 4→l2=unC (mkU p))∧(L 5→l3=spC C g P B)) 0 6 6 rfl rfl (by kernel_rfl) (by kernel_rfl) (by kernel_rfl) ?_ ?_ ?_
 ·exact⟨⟨⟨rfl,rfl⟩,⟨rfl,rfl⟩,rfl⟩,fun h=>absurd h (by omega),fun h=>absurd h (by omega),fun h=>absurd h (by omega),fun h=>absurd h (by omega),_,_,rfl,⟨rfl,rfl⟩,fun h=>absurd h (by omega),fun h=>absurd h (by omega)⟩
 ·rintro L E H i o ⟨⟨⟨a1,a2⟩,⟨a3,a4⟩,a5⟩,k0,k1,k2,k3,l2,l3,rfl,⟨n2,n3⟩,k4,k5⟩ ho _ hi hL hed
  have hi6:i=0∨i=1∨i=2∨i=3∨i=4∨i=5:=by omega
  obtain⟨x0,x1,x2,x3,rfl⟩: ∃x0 x1 x2 x3,l2=[x0,x1,x2,x3]:=by
   rcases l2 with _|⟨x0,_|⟨x1,_|⟨x2,_|⟨x3,_|⟨x4,l2⟩⟩⟩⟩⟩<;>first|exact⟨_,_,_,_,rfl⟩|(simp at n2)
  obtain⟨y0,y1,y2,y3,y4,y5,rfl⟩: ∃y0 y1 y2 y3 y4 y5,l3=[y0,y1,y2,y3,y4,y5]:=by
   rcases l3 with _|⟨x0,_|⟨x1,_|⟨x2,_|⟨x3,_|⟨x4,_|⟨x5,_|⟨x6,l3⟩⟩⟩⟩⟩⟩⟩<;>first|exact⟨_,_,_,_,_,_,rfl⟩|(simp at n3)
  rcases hi6 with rfl|rfl|rfl|rfl|rfl|rfl
  all_goals
   simp only[w'I,x'L,x'4,z'H]at ho
   subst ho
   refine⟨rfl,Zta fun K hK=>?_⟩
  ·simp (disch:=omega) only[go_sem,Nat.reduceBEq,Nat.reduceAdd,Nat.reduceMul,Nat.reduceSub,Nat.reduceLeDiff,Int.reduceToNat,a3]
   exact hK _ _ ⟨⟨⟨a1,a2⟩,⟨a3,a4⟩,a5⟩,fun _=>rfl,fun h=>k1 (h.resolve_left (by decide)),fun h=>k2 (h.resolve_left (by decide)),fun h=>k3 (h.resolve_left (by decide)),_,_,rfl,⟨rfl,rfl⟩,fun h=>k4 (h.resolve_left (by decide)),fun h=>k5 (h.resolve_left (by decide))⟩
  ·simp (disch:=omega) only[go_sem,Nat.reduceBEq,Nat.reduceAdd,Nat.reduceMul,Nat.reduceSub,Nat.reduceLeDiff,Int.reduceToNat,a4]
   exact hK _ _ ⟨⟨⟨a1,a2⟩,⟨a3,a4⟩,a5⟩,fun h=>k0 (h.resolve_left (by decide)),fun _=>rfl,fun h=>k2 (h.resolve_left (by decide)),fun h=>k3 (h.resolve_left (by decide)),_,_,rfl,⟨rfl,rfl⟩,fun h=>k4 (h.resolve_left (by decide)),fun h=>k5 (h.resolve_left (by decide))⟩
  ·simp (disch:=omega) only[go_sem,Nat.reduceBEq,Nat.reduceAdd,Nat.reduceMul,Nat.reduceSub,Nat.reduceLeDiff,Int.reduceToNat,a5]
   exact hK _ _ ⟨⟨⟨a1,a2⟩,⟨a3,a4⟩,a5⟩,fun h=>k0 (h.resolve_left (by decide)),fun h=>k1 (h.resolve_left (by decide)),fun _=>rfl,fun h=>k3 (h.resolve_left (by decide)),_,_,rfl,⟨rfl,rfl⟩,fun h=>k4 (h.resolve_left (by decide)),fun h=>k5 (h.resolve_left (by decide))⟩
  ·have:=k2 (hed ⟨2,.data⟩ (by simp) (by decide))
   simp (disch:=omega) only[go_sem,Nat.reduceBEq,Nat.reduceAdd,Nat.reduceMul,Nat.reduceSub,Nat.reduceLeDiff,Int.reduceToNat,this]
   exact hK _ _ ⟨⟨⟨a1,a2⟩,⟨a3,a4⟩,a5⟩,fun h=>k0 (h.resolve_left (by decide)),fun h=>k1 (h.resolve_left (by decide)),fun h=>k2 (h.resolve_left (by decide)),fun _=>rfl,_,_,rfl,⟨rfl,rfl⟩,fun h=>k4 (h.resolve_left (by decide)),fun h=>k5 (h.resolve_left (by decide))⟩
  ·have:=k0 (hed ⟨0,.data⟩ (by simp) (by decide))
   simp (disch:=omega) only[go_sem,Nat.reduceBEq,Nat.reduceAdd,Nat.reduceMul,Nat.reduceSub,Nat.reduceLeDiff,Int.reduceToNat,this,a1]
   exact hK _ _ ⟨⟨⟨a1,a2⟩,⟨a3,a4⟩,a5⟩,fun h=>k0 (h.resolve_left (by decide)),fun h=>k1 (h.resolve_left (by decide)),fun h=>k2 (h.resolve_left (by decide)),fun h=>k3 (h.resolve_left (by decide)),_,_,rfl,⟨rfl,rfl⟩,fun _=>rfl,fun h=>k5 (h.resolve_left (by decide))⟩
  ·have:=k1 (hed ⟨1,.data⟩ (by simp) (by decide))
   simp (disch:=omega) only[go_sem,Nat.reduceBEq,Nat.reduceAdd,Nat.reduceMul,Nat.reduceSub,Nat.reduceLeDiff,Int.reduceToNat,this,a2]
   exact hK _ _ ⟨⟨⟨a1,a2⟩,⟨a3,a4⟩,a5⟩,fun h=>k0 (h.resolve_left (by decide)),fun h=>k1 (h.resolve_left (by decide)),fun h=>k2 (h.resolve_left (by decide)),fun h=>k3 (h.resolve_left (by decide)),_,_,rfl,⟨rfl,rfl⟩,fun h=>k4 (h.resolve_left (by decide)),fun _=>rfl⟩
 ·rintro E H ⟨⟨⟨a1,a2⟩,⟨a3,a4⟩,a5⟩,k0,k1,k2,k3,l2,l3,rfl,⟨n2,n3⟩,k4,k5⟩
  rw[k4 (by show 4<6;omega),k5 (by show 5<6;omega)]
  have k3:=k3 (by show 3<6;omega)
  refine VCd.tail (f:=6) (by kernel_rfl) ?_
  simp only[v'z,x's,List.drop_nil]
  repeat' first|refine mq1 (z'X @k3 @g1) ?_|refine ov ?_|fail
  exact ZlZ T a1 (by(try simp (disch:=omega) only[hget_ne,hget_eq]);rfl) rfl rfl rfl a2 (by(try simp (disch:=omega) only[hget_ne,hget_eq]);rfl) rfl rfl rfl (z'a _) (Fz.refl _ _)
end Go.Proofs.YthlkpnjjkgmlkaaGreat
