/- The walk of MachineNames. No condition. -/
import Derived.Test.YthlkpnjjkgmlkaaGreatZr
import Derived.Test.YthlkpnjjkgmlkaaGreatYi
import Derived.Test.YthlkpnjjkgmlkaaGreatK2
import Derived.Test.YthlkpnjjkgmlkaaGreatZq
import Derived.Test.YthlkpnjjkgmlkaaGreatRi
import Derived.Test.YthlkpnjjkgmlkaaGreatWa
import Derived.Test.YthlkpnjjkgmlkaaGreatDb
namespace Go.Proofs.YthlkpnjjkgmlkaaGreat
set_option maxHeartbeats 16000000
set_option linter.unusedSimpArgs false
set_option linter.unusedVariables false
set_option maxRecDepth 20000
open Go Go.Proofs Go.Vc
attribute [local irreducible] x'c VCg VCw VCx
section
variable {u : Un} {c : Cf} {m : Int} {i : Nat} {x : Ins} {row : List Int} {b : List En}
end
section
variable {u : Un} {c : Cf} {m r : Int}
end
end Go.Proofs.YthlkpnjjkgmlkaaGreat
/- A region that draws its order, in which one new variable is written. No condition. -/
namespace Go.Vc
set_option maxHeartbeats 16000000
set_option linter.unusedSimpArgs false
set_option linter.unusedVariables false
open Go
def VCp (F:Nat→(Nat→D)→Oper→FRes→Prop) (K:(Nat→D)→List (Tmp×NewI)→Prop):Nat→Nat→List Oper→(Nat→D)→List (Tmp×NewI)→Prop
 |0,_,_,E,news=>K E news
 |_+1,_,[],_,_=>False
 |m+1,i,o::l,E,news=> ∃r,F i E o r∧VCp F K m (i+1) l (updO E o.dst r.d) (news++ZcY r o.dst)
theorem VCp.extract {F:Nat→(Nat→D)→Oper→FRes→Prop} {K:(Nat→D)→List (Tmp×NewI)→Prop} {ops:Array Oper}: ∀(m i:Nat) (l:List Oper) (E:Nat→D) (news:List (Tmp×NewI)),l=ops.toList.drop i→VCp F K m i l E news→
  ∃res:Nat→FRes,(∀j,j<m→ ∃o,ops[i+j]?=some o∧F (i+j) (y'R ops i E res j) o (res (i+j)))∧K (y'R ops i E res m) (news++w'B ops res i m)
 |0,i,l,E,news,_,h=>⟨fun _=> .skip,fun j hj=>by omega,by rw[w'B,z's];exact h⟩
 |m+1,i,[],E,news,_,h=>h.elim
 |m+1,i,o::l,E,news,hl,h=>by
  obtain⟨r,hok,h2⟩:=h
  have ho:ops[i]?=some o:=by
   have:(ops.toList.drop i)[0]?=some o:=by rw[←hl];rfl
   rw[y'M]at this
   simpa using this
  have hl2:l=ops.toList.drop (i+1):=by
   have:ops.toList.drop (i+1)=(ops.toList.drop i).drop 1:=by rw[x'G]
   rw[this, ←hl];rfl
  obtain⟨res',h3,h4⟩:=VCp.extract m (i+1) l _ _ hl2 h2
  let res:Nat→FRes:=fun k=>if k=i then r else res' k
  have hri:res i=r:=by simp[res]
  have hr: ∀k,i+1≤k→res' k=res k:=fun k hk=>by simp only[res];rw[if_neg (by omega)]
  have hd:z'T ops i=o.dst:=by simp[z'T,ho]
  have hen: ∀j,y'R ops i E res (j+1)=y'R ops (i+1) (updO E o.dst r.d) res' j:=fun j=>by
   rw[Zei,hri,hd,Zbf (fun k hk=>(hr k hk).symm)]
  refine⟨res,fun j hj=>?_,?_⟩
  ·cases j with
   |zero=>exact⟨o,ho,by rw[x'B,hri];exact hok⟩
   |succ j=>
    obtain⟨o',h5,h6⟩:=h3 j (by omega)
    rw[show i+(j+1)=i+1+j by omega]
    refine⟨o',h5,?_⟩
    rw[hen, ←hr _ (by omega)]
    exact h6
  ·rw[hen,w'B,ZaC m (i+1) (fun k hk=>(hr k hk).symm)]
   rw[Zbs,hri,hd, ←z'6]
   exact h4
section
variable {P : Program} {x : Ctx} {ops : Array Oper} {f : Nat} {H : Heap} {E : Nat → D} {a0 : Act} {ws : World}
end
def MF (P:Program) (T:Tab P) (ops:Array Oper) (H:Heap) (kk st:Nat) (s:Tmp) (ty:TypeId) (z':List D) (i:Nat) (E:Nat→D) (o:Oper) (r:FRes):Prop:=
 match Nat.beq i kk,Nat.beq i st with
 |true,_=>r= .new (.cells ty z')∧o.guard=none∧o.op= .alloc ty∧o.dst=some s∧(T.get ty).known=true∧((T.get ty).zero.map constD).all oneD=true
 |false,true=>r= .det (.is undef)∧o.guard=none∧o.dst=none∧z'.length=((T.get ty).zero.map constD).length∧
   ∀b,b∉H.blocks→OpS P o (evD (upd E s (.is (.pointer (some ⟨b,0,none⟩))))) ((b,.cells ty ((T.get ty).zero.map constD).length ((T.get ty).zero.map constD))::H) (fun d' H'=>d'= .is undef∧H'=(b,.cells ty ((T.get ty).zero.map constD).length z')::H)
 |false,false=>FOk P ops E H o r
section
variable {P : Program} (T : Tab P) {ops : Array Oper} {H : Heap} {K : (Nat → D) → List (Tmp × NewI) → Prop} {m i kk st : Nat} {s : Tmp} {ty : TypeId} {z' : List D} {E : Nat → D} {news : List (Tmp × NewI)} {o : Oper} {l : List Oper}
theorem VCm.nil (h:K E news):VCp (MF P T ops H kk st s ty z') K 0 i l E news:=h
theorem VCm.step {d:D} {t:Tmp} (h1:Nat.beq i kk=false) (h2:Nat.beq i st=false) (hg:o.guard=none) (ht:o.dst=some t) (hc:opC T o (evD E) H (fun d' H'=>d'=d∧H'=H)) (hn:VCp (MF P T ops H kk st s ty z') K m (i+1) l (upd E t d) news):
  VCp (MF P T ops H kk st s ty z') K (m+1) i (o::l) E news:=
 ⟨.det d,by unfold MF;rw[h1,h2];exact⟨.inl hg,v'8 T hc⟩,by rw[w'q,z's,ht];exact hn⟩
theorem VCm.alloc (h1:Nat.beq i kk=true) (hg:o.guard=none) (hop:o.op= .alloc ty) (hd:o.dst=some s) (hk:(T.get ty).known=true) (hz:((T.get ty).zero.map constD).all oneD=true) (hn:VCp (MF P T ops H kk st s ty z') K m (i+1) l (upd E s .any) (news++[(s,.cells ty z')])):
  VCp (MF P T ops H kk st s ty z') K (m+1) i (o::l) E news:=
 ⟨.new (.cells ty z'),by unfold MF;rw[h1];exact⟨rfl,hg,hop,hd,hk,hz⟩,by rw[hd];exact hn⟩
theorem VCm.store (h1:Nat.beq i kk=false) (h2:Nat.beq i st=true) (hg:o.guard=none) (hd:o.dst=none)
  (hc: ∀b,b∉H.blocks→opC T o (evD (upd E s (.is (.pointer (some ⟨b,0,none⟩))))) ((b,.cells ty ((T.get ty).zero.map constD).length ((T.get ty).zero.map constD))::H) (fun d' H'=>d'= .is undef∧H'=(b,.cells ty ((T.get ty).zero.map constD).length z')::H))
  (hz:z'.length=((T.get ty).zero.map constD).length) (hn:VCp (MF P T ops H kk st s ty z') K m (i+1) l E news):
  VCp (MF P T ops H kk st s ty z') K (m+1) i (o::l) E news:=
 ⟨.det (.is undef),by unfold MF;rw[h1,h2];exact⟨rfl,hg,hd,hz,fun b hb=>let ⟨_,q1,q2⟩:=w'P T (hc b hb);q1.mono q2⟩,by rw[w'q,z's,hd];exact hn⟩
end
end Go.Vc
/- Contracts: where a program begins, and where a path leads. No condition. -/
namespace Go.Proofs.YthlkpnjjkgmlkaaGreat
set_option maxHeartbeats 16000000
set_option linter.unusedSimpArgs false
set_option linter.unusedVariables false
set_option maxRecDepth 20000
open Go Go.Proofs Go.Vc
attribute [local irreducible] x'c VCg VCw VCx
theorem ZpI (n:Nat):v'r n [.slice none 0 0]=List.replicate n (D.gs none 0):=by
 show(List.replicate n [D.gs none 0]).flatten=_
 induction n with
 |zero=>rfl
 |succ n ih=>rw[y'o,z'R,ih,y'o];rfl
theorem ZqM {o:Oper} {E:Operand→D} {H:Heap} {l c:Operand} {n:Nat} (ho:o.op= .makeSlice 67 l c) (hl:E l=iD (n:Nat)) (hc:E c=iD (n:Nat)) (hn:n≤1000000):
  OpS Tryz.prog o E H (fun d' H'=>d'= .sl false 1 (x'6 (List.replicate n []))∧H'=H):=by
 have hcm:cMake (kdT (T.get 67)) (E l) (E c) H (fun d H'=> ∃k,d= .gs (some (k,n)) n∧H'=(k,.cells 119 (n*1) (List.replicate n (D.gs none 0)))::H):=by
  rw[hl,hc]
  show cMake (.slice 119 1 24 false [.slice none 0 0]) _ _ _ _
  refine⟨⟨by omega,rfl,by rw[z'q];omega,by omega,rfl⟩,fun k hk=>⟨k,by rw[z'q],?_⟩⟩
  rw[z'q,ZpI]
 obtain⟨Φ,h1,h2⟩:=ZhQ T (E:=E) (H:=H) (K:=fun d H'=> ∃k,d= .gs (some (k,n)) n∧H'=(k,.cells 119 (n*1) (List.replicate n (D.gs none 0)))::H) ho hcm
 refine OpS.freeze (OpS.mono h1 h2) fun d H' ⟨k,q1,q2⟩=>⟨[(k,.cells 119 (n*1) (List.replicate n (D.gs none 0)))],q2,?_⟩
 rw[q1]
 have:=Zdd (g:=some (k,n)) (n:=n) (e:=119) (l:=List.replicate n (D.gs none 0)) (H:=[(k,.cells 119 (n*1) (List.replicate n (D.gs none 0)))]) (by rw[y'u];simp) (by exact z'f n) (fun b cap hb=>by cases hb;exact z'n ..) (Zl2 n)
 exact this
def cf0:Cf:=⟨[],[],[],[]⟩
def ZgB (u:Un):Cf:=match y'G u with|true=>x'n u|false=>cf0
def ZgC (u:Un):Int:=match y'G u with|true=>0|false=>8
theorem Ztl {H:Heap} {d' d:D} (h:Fz H d' d):Fz H (.tup [.agg (cfC cf0),d']) (.tup [.agg [.gs none 0,.gs none 0,.gs none 0,.gs none 0],d]):=
 ⟨_,rfl,z'4 ⟨_,rfl,z'4 w'v (z'4 w'v (z'4 w'v (z'4 w'v v'o)))⟩ (z'4 h v'o)⟩
theorem Zoq (u:Un) (hu:OkU u):Pure Tryz.prog 212 [.agg (unC u)] (.tup [.agg (cfC (ZgB u)),iD (ZgC u)]):=by
 have k1:=hu.ini
 have k2:=hu.reg
 have cu:=Zfx u hu
 refine Fun.fz ?_
 refine Fun.of T [.cell 2 69,.tmp 3] Tryz.func212 rfl Tryz.ntmps212 Tryz.results212 rfl (by kernel_rfl) ?_
 cases hU:y'G u with
 |false=>
  rw[hU]at cu
  rw[show ZgB u=cf0 by simp[ZgB,hU],show ZgC u=8 by simp[ZgC,hU]]
  repeat' first|refine vb (t:=32) rfl rfl rfl rfl ?_|refine vs T rfl fun K hK=>?_;(try simp (disch:=omega) only[go_sem,Nat.reduceBEq,Nat.reduceAdd,Nat.reduceLeDiff,z'O]);(first|refine hK _ _ ?_;clear hK K|intro bq hbq;(try simp only[HB]at hbq);refine hK _ _ ?_;clear hK K|refine Op1.callp rfl rfl (cu) rfl ?_;refine hK _ _ ?_;clear hK K)|refine st rfl ?_|refine sc rfl ?_|refine nl ?_
  exact w'N T rfl hget_eq rfl rfl rfl (z'a _) (Ztl (Fz.refl _ _))
 |true=>
 rw[hU]at cu
 rw[show ZgB u=x'n u by simp[ZgB,hU],show ZgC u=0 by simp[ZgC,hU]]
 have co:=ZqP u.init (by omega)
 repeat' first|refine vb (t:=32) rfl rfl rfl rfl ?_|refine VCg.stepS T rfl rfl (ZqM rfl rfl rfl (by omega)) ?_|refine VCg.stepS T rfl rfl (Zk7 rfl rfl rfl (by omega)) ?_|refine dr (id:=4) T 9 (by kernel_rfl) ?_|refine VCg.nil T ?_;simp only[ZaL,WB,Nat.reduceAdd,T69];try(refine fun(bq:Nat) hbq=>?_;(try simp only[HB]at hbq))|apply VCg.step T rfl rfl;focus((try simp (disch:=omega) only[go_sem,Nat.reduceBEq,Nat.reduceAdd]);(first|exact rfl|refine Op1.callp rfl rfl (co) rfl ?_;exact⟨rfl,rfl⟩))|refine VCg.alloc T rfl rfl rfl rfl rfl ?_|refine vs T rfl fun K hK=>?_;(try simp (disch:=omega) only[go_sem,Nat.reduceBEq,Nat.reduceAdd,Nat.reduceLeDiff,z'I,z'E]);(first|refine hK _ _ ?_;clear hK K|intro bq hbq;(try simp only[HB]at hbq);refine hK _ _ ?_;clear hK K|refine Op1.callp rfl rfl (cu) rfl ?_;refine hK _ _ ?_;clear hK K)|refine st rfl ?_|refine sc rfl ?_|refine nl ?_
 rename_i b2 hb2
 have n1: ¬bq=b2:=hbq
 refine VC.loop {p:Nat×G//p.1≤u.regs.length∧gOk p.2 p.1} (fun p=>⟨y'd [(1,.pt (unC u)),(2,pD b2),(5,pD bq),(24,y'c u.regs),(25,iD (u.regs.length:Nat)),(26,iD (p.1.1:Nat))],(bq,.cells 69 4 [y'c (List.replicate u.regs.length 0),.gs p.1.2 p.1.1,y'c u.init,.sl false 1 (x'6 (List.replicate u.regs.length []))])::(b2,.cells 69 4 [.gs none 0,.gs none 0,.gs none 0,.gs none 0])::shp p.1.2 29 1 ((u.regs.take p.1.1).map Zha) []⟩) (fun p=>u.regs.length-p.1.1) ⟨(0,none),by dsimp only;omega,rfl⟩ ?_ ?_
 ·refine Weak.sub ?_
  simp[sub,upd]
 rintro⟨⟨t,g⟩,ht,hg⟩
 dsimp only at ht hg⊢
 rcases z'j t u.regs.length with hlt|hge
 ·have hd:decide ((t:Int)<(u.regs.length:Int))=true:=by simp;omega
  have hw:IntKind.i64.wrap ((t:Int)+1)=((t+1:Nat):Int):=by rw[w64 (by omega)];omega
  obtain⟨n,hn⟩: ∃n,u.regs[t]?=some n:=⟨_,z'b hlt⟩
  have hn6:=Zh0 hU hn
  obtain⟨k,rfl⟩: ∃k:Nat,n=(k:Int):=⟨n.toNat,by omega⟩
  have rn:(iRs u.regs)[t]?=some [iD (k:Nat)]:=by rw[x'7,hn];rfl
  have hc2:((u.regs.take t).map Zha).length=t*1:=by rw[z'i,z'y];omega
  have z2:(u.regs.take (t+1)).map Zha=(u.regs.take t).map Zha++[y'c (List.replicate k 0)]:=by
   rw[y'e,hn]
   simp[Zha]
  repeat' first|refine VCg.stepS T rfl rfl (Zk7 rfl rfl rfl (by omega)) ?_|refine dr (id:=8) T 5 (by kernel_rfl) ?_|refine gn ?_|apply VCg.step T rfl rfl;focus((try simp (disch:=omega) only[go_sem,Nat.reduceBEq,Nat.reduceMul,Nat.reduceLeDiff]);(exact rfl))|refine vs T rfl fun K hK=>?_;(try simp (disch:=omega) only[go_sem,Nat.reduceBEq,Nat.reduceAdd,Nat.reduceLeDiff,hd,hw,rn,z'I]);(first|refine hK _ _ ?_;clear hK K|refine⟨_,_,_,_,(by repeat (first|exact Sp.here|apply Sp.cons)),?_,(by exact⟨rfl,rfl⟩),⟨by decide,?_⟩,fun g' hg'=>hK _ _ ?_⟩<;>clear hK K|refine⟨?_,hK _ _ ?_⟩<;>clear hK K;focus(try omega))|refine st rfl ?_|refine sc rfl ?_|refine nl ?_
  all_goals first|exact hc2|omega|skip
  refine⟨⟨(t+1,g'),by dsimp only;omega,hg'⟩,z'S ?_ ?_,by dsimp only;omega⟩
  ·dsimp only
   rw[z2]
  ·simp[sub,upd]
 ·have hd:decide ((t:Int)<(u.regs.length:Int))=false:=by simp;omega
  obtain rfl:t=u.regs.length:=by omega
  rw[z'Y]
  repeat' first|refine vs T rfl fun K hK=>?_;(try simp (disch:=omega) only[go_sem,Nat.reduceBEq,Nat.reduceAdd,Nat.reduceLeDiff,hd]);(refine hK _ _ ?_;clear hK K)|refine st rfl ?_|refine sc rfl ?_|refine nl ?_
  refine w'N T rfl (by(try simp (disch:=omega) only[hget_ne,hget_eq]);rfl) rfl rfl rfl (z'w _) ?_
  refine⟨_,rfl,z'4 ⟨_,rfl,?_⟩ (FzL.refl _ _)⟩
  refine z'4 (Fz.refl _ _) (z'4 ?_ (FzL.refl _ _))
  exact Zdd (e:=29) (l:=u.regs.map Zha) (by rw[y'4];simp[x'n]) hg (fun b cap hb=>z'k _ (z'k _ (by rw[hb];exact v'g))) (ZjM u.regs)
abbrev Wy:=Int×Int×Int×List Int
def isN (In:List Bool) (x:Int):Bool:=match decide (0≤x)&&decide (x<In.length)with|true=>In.getD x.toNat false|false=>false
def Zqv (F:List Wy) (x:Int):Bool:=F.any fun e=>decide (e.1=x)
def ZrJ (In:List Bool) (x:Int) (p:List Int) (F:List Wy) (e:Ed):List Wy:=match isN In e.2.2&& !Zqv F e.2.2 with|true=>F++[(e.2.2,x,e.2.1,p++[e.2.1])]|false=>F
structure IW (n:Nat) (F:List Wy):Prop where
 nd:(F.map (·.1)).Nodup
 bd: ∀e,e∈F→0≤e.1∧e.1<n
 up: ∀(j:Nat) (e:Wy),F[j]?=some e→(e.2.1= -1∧e.2.2.2=[])∨ ∃(j':Nat) (e':Wy),j'<j∧F[j']?=some e'∧e'.1=e.2.1∧e.2.2.2=e'.2.2.2++[e.2.2.1]
theorem Zqw {F:List Wy} {x:Int}:Zqv F x=true↔x∈F.map (·.1):=by
 simp only[Zqv,List.any_eq_true,decide_eq_true_eq,z'p]
theorem Zk4: ∀{n:Nat} {l:List Int},l.Nodup→(∀x,x∈l→0≤x∧x<(n:Nat))→l.length≤n
 |0,[],_,_=>z'f _
 |0,x::l,_,h=>by have:=h x (z'n ..);omega
 |n+1,l,hn,h=>by
  have h1:=Zk4 (n:=n) (l:=l.filter fun x=>decide (x≠(n:Int))) (hn.filter _) fun x hx=>by
   have hx':=x'R.1 hx
   have:=h x hx'.1
   have h3:=hx'.2
   simp only[decide_eq_true_eq]at h3
   omega
  have h2:l.length≤(l.filter fun x=>decide (x≠(n:Int))).length+1:=by
   clear h1 h
   induction l with
   |nil=>exact y'f _
   |cons y l ih=>
    obtain⟨hy,hl⟩:=y'F.1 hn
    by_cases hyn:y=(n:Int)
    ·have he:(l.filter fun x=>decide (x≠(n:Int)))=l:=List.filter_eq_self.2 fun x hx=>decide_eq_true fun e=>hy (by rw[hyn, ←e];exact hx)
     rw[List.filter_cons_of_neg (by simp[hyn]),he]
     exact z'f _
    ·rw[x'T (by simp[hyn])]
     have:=ih hl
     simp only[z'u]
     omega
  omega
theorem IW.len {n:Nat} {F:List Wy} (h:IW n F):F.length≤n:=by
 rw[←z'i (·.1)]
 exact Zk4 h.nd fun x hx=>by obtain⟨e,he,rfl⟩:=z'p.1 hx;exact h.bd e he
theorem IW.step {n:Nat} {F:List Wy} (h:IW n F) {In:List Bool} {i:Nat} {e:Wy} (he:F[i]?=some e) {d:Ed} (hd:0≤d.2.2∧d.2.2<n):IW n (ZrJ In e.1 e.2.2.2 F d):=by
 unfold ZrJ
 split
 ·rename_i hc
  simp only[z'c,x'3]at hc
  have hno:d.2.2∉F.map (·.1):=fun hm=>by rw[Zqw.2 hm]at hc;cases hc.2
  refine⟨?_,?_,?_⟩
  ·rw[z'v,z'm,z'8]
   exact y'z.2 ⟨h.nd,by simp,fun a ha b hb=>by rw[z'V]at hb;subst hb;exact fun q=>hno (by rw[show d.2.2=a from q.symm];exact ha)⟩
  ·intro x hx
   rcases z'W.1 hx with hx|hx
   ·exact h.bd x hx
   ·rw[z'V]at hx;subst hx;exact hd
  ·intro j x hx
   rcases z'j j F.length with hj|hj
   ·rw[y'l hj]at hx
    rcases h.up j x hx with h1|⟨j',e',h1,h2,h3⟩
    ·exact .inl h1
    ·exact .inr ⟨j',e',h1,by rw[y'l (by omega)];exact h2,h3⟩
   ·rw[List.getElem?_append_right hj]at hx
    have hi:i<F.length:=by
     rcases z'j i F.length with h|h
     ·exact h
     ·rw[z'L h]at he;cases he
    have hx':x=(d.2.2,e.1,d.2.1,e.2.2.2++[d.2.1]):=by
     cases hjj:j-F.length with
     |zero=>rw[hjj]at hx;simpa using hx.symm
     |succ k=>rw[hjj]at hx;simp at hx
    subst hx'
    exact .inr ⟨i,e,by omega,by rw[y'l hi];exact he,rfl,rfl⟩
 ·exact h
theorem IW.one {n:Nat} {a:Int} (h:0≤a∧a<n):IW n [(a, -1, -1,[])]:=by
 refine⟨by simp,fun e he=>by rw[z'V]at he;subst he;exact h,fun j e he=>?_⟩
 cases j with
 |zero=>cases he;exact .inl ⟨rfl,rfl⟩
 |succ j=>simp at he
end Go.Proofs.YthlkpnjjkgmlkaaGreat
/- Slices of one's own that begin at any place of their block: made, read, cut, appended to. No condition. -/
namespace Go.Vc
set_option maxHeartbeats 16000000
set_option linter.unusedSimpArgs false
set_option linter.unusedVariables false
open Go
end Go.Vc
/- Contracts: a way by some nodes, the program. No condition. -/
namespace Go.Proofs.YthlkpnjjkgmlkaaGreat
set_option maxHeartbeats 16000000
set_option linter.unusedSimpArgs false
set_option linter.unusedVariables false
set_option maxRecDepth 20000
open Go Go.Proofs Go.Vc
end Go.Proofs.YthlkpnjjkgmlkaaGreat
