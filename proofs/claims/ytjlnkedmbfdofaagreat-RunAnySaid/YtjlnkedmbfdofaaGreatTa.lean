/- Contracts: where a text stands in a table. No condition. -/
import Derived.Test.YtjlnkedmbfdofaaGreatCa
import Derived.Test.YtjlnkedmbfdofaaGreatBb
import Derived.Test.YtjlnkedmbfdofaaGreatRd
import Derived.Test.YtjlnkedmbfdofaaGreatZp
import Derived.Test.YtjlnkedmbfdofaaGreatZr
import Derived.Test.YtjlnkedmbfdofaaGreatWa
namespace Go.Proofs.YtjlnkedmbfdofaaGreat
set_option linter.unusedSimpArgs false
set_option linter.unusedVariables false
set_option maxRecDepth 20000
open Go Go.Proofs Go.Vc
attribute [local irreducible] z'Z VCg VCw VCx
noncomputable abbrev hm0 (s:ByteArray):Nat:=ZnQ (ZcZ s)
structure Zof (X:List ByteArray) (S:List Int) (k:Nat):Prop where
 len:S.length=2^k
 kk:4≤k∧k≤40
 free:0<S.count 0
 val: ∀v,v∈S→v=0∨ ∃i:Nat,i<X.length∧v=(i:Int)+1
 tl:X.length≤1000000
section
variable {u : Un} {c : Cf} {m r : Int}
end
end Go.Proofs.YtjlnkedmbfdofaaGreat
/- A region that draws its order, in which one new variable is written. No condition. -/
namespace Go.Vc
set_option linter.unusedSimpArgs false
set_option linter.unusedVariables false
open Go
def VCp (F:Nat→(Nat→D)→Oper→FRes→Prop) (K:(Nat→D)→List (Tmp×NewI)→Prop):Nat→Nat→List Oper→(Nat→D)→List (Tmp×NewI)→Prop
 |0,_,_,E,news=>K E news
 |_+1,_,[],_,_=>False
 |m+1,i,o::l,E,news=> ∃r,F i E o r∧VCp F K m (i+1) l (updO E o.dst r.d) (news++ZaB r o.dst)
theorem VCp.extract {F:Nat→(Nat→D)→Oper→FRes→Prop} {K:(Nat→D)→List (Tmp×NewI)→Prop} {ops:Array Oper}: ∀(m i:Nat) (l:List Oper) (E:Nat→D) (news:List (Tmp×NewI)),l=ops.toList.drop i→VCp F K m i l E news→
  ∃res:Nat→FRes,(∀j,j<m→ ∃o,ops[i+j]?=some o∧F (i+j) (y'p ops i E res j) o (res (i+j)))∧K (y'p ops i E res m) (news++x'E ops res i m)
 |0,i,l,E,news,_,h=>⟨fun _=> .skip,fun j hj=>by omega,by rw[x'E,z'x];exact h⟩
 |m+1,i,[],E,news,_,h=>h.elim
 |m+1,i,o::l,E,news,hl,h=>by
  obtain⟨r,hok,h2⟩:=h
  have ho:ops[i]?=some o:=by
   have:(ops.toList.drop i)[0]?=some o:=by rw[←hl];rfl
   rw[z'7]at this
   simpa using this
  have hl2:l=ops.toList.drop (i+1):=by
   have:ops.toList.drop (i+1)=(ops.toList.drop i).drop 1:=by rw[y'5]
   rw[this, ←hl];rfl
  obtain⟨res',h3,h4⟩:=VCp.extract m (i+1) l _ _ hl2 h2
  let res:Nat→FRes:=fun k=>if k=i then r else res' k
  have hri:res i=r:=by simp[res]
  have hr: ∀k,i+1≤k→res' k=res k:=fun k hk=>by simp only[res];rw[if_neg (by omega)]
  have hd:z'v ops i=o.dst:=by simp[z'v,ho]
  have hen: ∀j,y'p ops i E res (j+1)=y'p ops (i+1) (updO E o.dst r.d) res' j:=fun j=>by
   rw[ZbB,hri,hd,Zab (fun k hk=>(hr k hk).symm)]
  refine⟨res,fun j hj=>?_,?_⟩
  ·cases j with
   |zero=>exact⟨o,ho,by rw[y'7,hri];exact hok⟩
   |succ j=>
    obtain⟨o',h5,h6⟩:=h3 j (by omega)
    rw[show i+(j+1)=i+1+j by omega]
    refine⟨o',h5,?_⟩
    rw[hen, ←hr _ (by omega)]
    exact h6
  ·rw[hen,x'E,v'M m (i+1) (fun k hk=>(hr k hk).symm)]
   rw[v'o,hri,hd, ←List.append_assoc]
   exact h4
section
variable {P : Program} {x : Ctx} {ops : Array Oper} {f : Nat} {H : Heap} {E : Nat → D} {a0 : Act} {ws : World}
end
def MF (P:Program) (T:Tab P) (ops:Array Oper) (H:Heap) (kk st:Nat) (s:Tmp) (ty:TypeId) (z':List D) (i:Nat) (E:Nat→D) (o:Oper) (r:FRes):Prop:=
 match Nat.beq i kk,Nat.beq i st with
 |true,_=>r= .new (.cells ty z')∧o.guard=none∧o.op= .alloc ty∧o.dst=some s∧(T.get ty).known=true∧((T.get ty).zero.map constD).all oneD=true
 |false,true=>r= .det (.is undef)∧o.guard=none∧o.dst=none∧z'.length=((T.get ty).zero.map constD).length∧
   ∀b,b∉H.blocks→OpS P o (evD (upd E s (.is (.pointer (some ⟨b,0,none⟩))))) ((b,.cells ty ((T.get ty).zero.map constD).length ((T.get ty).zero.map constD))::H) (fun d' H'=>d'= .is undef∧H'=(b,.cells ty ((T.get ty).zero.map constD).length z')::H)
 |false,false=>FOk P ops E H o r
section
variable {P : Program} (T : Tab P) {ops : Array Oper} {H : Heap} {K : (Nat → D) → List (Tmp × NewI) → Prop} {m i kk st : Nat} {s : Tmp} {ty : TypeId} {z' : List D} {E : Nat → D} {news : List (Tmp × NewI)} {o : Oper} {l : List Oper}
theorem VCm.nil (h:K E news):VCp (MF P T ops H kk st s ty z') K 0 i l E news:=h
theorem VCm.step {d:D} {t:Tmp} (h1:Nat.beq i kk=false) (h2:Nat.beq i st=false) (hg:o.guard=none) (ht:o.dst=some t) (hc:opC T o (evD E) H (fun d' H'=>d'=d∧H'=H)) (hn:VCp (MF P T ops H kk st s ty z') K m (i+1) l (upd E t d) news):
  VCp (MF P T ops H kk st s ty z') K (m+1) i (o::l) E news:=
 ⟨.det d,by unfold MF;rw[h1,h2];exact⟨.inl hg,w'T T hc⟩,by rw[x'h,z'x,ht];exact hn⟩
theorem VCm.alloc (h1:Nat.beq i kk=true) (hg:o.guard=none) (hop:o.op= .alloc ty) (hd:o.dst=some s) (hk:(T.get ty).known=true) (hz:((T.get ty).zero.map constD).all oneD=true) (hn:VCp (MF P T ops H kk st s ty z') K m (i+1) l (upd E s .any) (news++[(s,.cells ty z')])):
  VCp (MF P T ops H kk st s ty z') K (m+1) i (o::l) E news:=
 ⟨.new (.cells ty z'),by unfold MF;rw[h1];exact⟨rfl,hg,hop,hd,hk,hz⟩,by rw[hd];exact hn⟩
theorem VCm.store (h1:Nat.beq i kk=false) (h2:Nat.beq i st=true) (hg:o.guard=none) (hd:o.dst=none)
  (hc: ∀b,b∉H.blocks→opC T o (evD (upd E s (.is (.pointer (some ⟨b,0,none⟩))))) ((b,.cells ty ((T.get ty).zero.map constD).length ((T.get ty).zero.map constD))::H) (fun d' H'=>d'= .is undef∧H'=(b,.cells ty ((T.get ty).zero.map constD).length z')::H))
  (hz:z'.length=((T.get ty).zero.map constD).length) (hn:VCp (MF P T ops H kk st s ty z') K m (i+1) l E news):
  VCp (MF P T ops H kk st s ty z') K (m+1) i (o::l) E news:=
 ⟨.det (.is undef),by unfold MF;rw[h1,h2];exact⟨rfl,hg,hd,hz,fun b hb=>let ⟨_,q1,q2⟩:=x'L T (hc b hb);q1.mono q2⟩,by rw[x'h,z'x,hd];exact hn⟩
end
end Go.Vc
/- Contracts: where a program begins, and where a path leads. No condition. -/
namespace Go.Proofs.YtjlnkedmbfdofaaGreat
set_option linter.unusedSimpArgs false
set_option linter.unusedVariables false
set_option maxRecDepth 20000
open Go Go.Proofs Go.Vc
attribute [local irreducible] z'Z VCg VCw VCx
section
variable {u : Un} {c : Cf} {m r : Int} (b : Nat)
end
end Go.Proofs.YtjlnkedmbfdofaaGreat
/- Calls through method values. No condition. -/
namespace Go.Vc
set_option linter.unusedSimpArgs false
set_option linter.unusedVariables false
open Go
end Go.Vc
/- Contracts: what is seen on a circle. No condition. -/
namespace Go.Proofs.YtjlnkedmbfdofaaGreat
set_option linter.unusedSimpArgs false
set_option linter.unusedVariables false
set_option maxRecDepth 20000
open Go Go.Proofs Go.Vc
attribute [local irreducible] z'Z VCg VCw VCx
theorem Zeo (n:Nat):v'0 n [.int .i64 0]=(List.replicate n (0:Int)).map iD:=by
 show(List.replicate n [iD 0]).flatten=_
 rw[List.map_replicate]
 induction n with
 |zero=>rfl
 |succ n ih=>rw[y'S,z'W,ih,y'S];rfl
theorem TI.sl {X:List ByteArray} {S:List Int} {n k:Nat} (I:TI hm0 X S n) (hl:S.length=2^k) (hk:4≤k∧k≤40) (hn:n<S.length) (ht:X.length≤1000000):Zof X S k:=
 ⟨hl,hk,by have:=I.free;omega,fun v hv=>by
  obtain⟨p,hp,rfl⟩:=List.mem_iff_getElem.1 hv
  rcases I.val p _ (z'l hp)with h|⟨i,hi,h⟩
  ·exact .inl h
  ·exact .inr ⟨i,by have:=I.nT;omega,h⟩,ht⟩
end Go.Proofs.YtjlnkedmbfdofaaGreat
