/- All operations' rules under one name; the step of a walk. No condition. -/
import Derived.Test.YtjlnkedmbfdofaaGreatK1
import Derived.Laws.CopyRow
import Derived.Scope
namespace Go.Vc
set_option linter.unusedSimpArgs false
open Go
set_option linter.unusedVariables false
theorem ZhR {P:Program} (T:Tab P) {o:Oper} {E:Operand→D} {H:Heap} {K:D→Heap→Prop} {t:TypeId} {x:Operand} {f:Nat} (ho:o.op= .field t x f)
  (hk:cField (fieldAt (kdT (T.get t)) f) (E x) (K · H)):Op1 P o E H K:=by
 unfold cField at hk
 split at hk
 ·rename_i off sz l hf hx0
  obtain⟨fs,fd,hu,hfd,h1,h2,h3,h4⟩:=ZcB T hf
  simp only at h1 h2 h3
  obtain⟨d,inf,z,g1,g2,g3,g4,g5,_⟩:=y'g h4
  obtain⟨hle,hk⟩:=hk
  refine Op1.value (d:= .agg ((l.drop off).take sz)) (fun w L0 ε hi hx=>?_) hk
  have r1:=hx x (by simp[ho,Op.operands])
  rw[hx0,Rel]at r1
  obtain⟨hone,cs,hv,hr⟩:=r1
  refine⟨.agg (cs.extract off (off+sz)),?_,w'p (w'o hone _) _,_,rfl,?_⟩
  ·simp only[execOp,ho,hv,Instr.field]
   refine(z'a (a:= .agg (cs.extract off (off+sz))) (w':=w) ?_).trans rfl
   rw[z'a (run_underlying hu w)]
   simp only[hfd]
   rw[z'a (a:=cs) (w':=w) rfl]
   unfold part
   rw[z'a (v'Z g1 w),show v'3 d=true by rw[g5];exact h3,h1]
   simp only[if_true]
   rw[z'a (x'X g2 w),g4,h2]
   rfl
  ·rw[Array.toList_extract,List.extract_eq_take_drop,show off+sz-off=sz by omega]
   exact RelL.take _ _ _ (RelL.drop _ _ _ hr)
 ·rename_i off sz l hf hx0
  obtain⟨fs,fd,hu,hfd,h1,h2,h3,h4⟩:=ZcB T hf
  simp only at h1 h2 h3
  obtain⟨d,inf,z,g1,g2,g3,g4,g5,_⟩:=y'g h4
  obtain⟨d0,hd0,hk⟩:=hk
  refine Op1.value (d:=d0) (fun w L0 ε hi hx=>?_) hk
  have r1:=hx x (by simp[ho,Op.operands])
  rw[hx0,Rel]at r1
  obtain⟨hone,cs,hv,hr⟩:=r1
  obtain⟨v,q1,q2⟩:=RelL.get _ _ hr off d0 hd0
  refine⟨v,?_,q2⟩
  have q1':cs[off]?=some v:=by simpa using q1
  simp only[execOp,ho,hv,Instr.field]
  refine(z'a (a:=v) (w':=w) ?_).trans rfl
  rw[z'a (run_underlying hu w)]
  simp only[hfd]
  rw[z'a (a:=cs) (w':=w) rfl]
  unfold part
  rw[z'a (v'Z g1 w),show v'3 d=false by rw[g5];exact h3,h1]
  simp only[y'i,if_false,q1']
  rfl
 ·exact hk.elim
def cIndex (kd:Kd) (x i:D) (K:D→Prop):Prop:=
 match kd,x,i with
 | .str,.is (.string s),.is (.int _ n)=>(0≤n∧n<s.size)∧K (.is (.int .u8 (s.data.toList.getD n.toNat 0).toNat))
 |_,_,_=>False
theorem ZhT {P:Program} (T:Tab P) {o:Oper} {E:Operand→D} {H:Heap} {K:D→Heap→Prop} {t:TypeId} {x i:Operand} (ho:o.op= .index t x i)
  (hk:cIndex (kdT (T.get t)) (E x) (E i) (K · H)):Op1 P o E H K:=by
 unfold cIndex at hk
 split at hk
 ·rename_i s k n hkt hx0 hi0
  have hu:=v'W T hkt
  obtain⟨⟨h0,h1⟩,hk⟩:=hk
  refine Op1.value (d:= .is (.int .u8 (s.data.toList.getD n.toNat 0).toNat)) (fun w L0 ε hi hx=>?_) hk
  have r1:=hx x (by simp[ho,Op.operands])
  have r2:=hx i (by simp[ho,Op.operands])
  rw[hx0]at r1;rw[hi0]at r2
  have r1':ε x= .string s:=r1
  have r2':ε i= .int k n:=r2
  refine⟨_,?_,rfl⟩
  have hlt:n.toNat<s.size:=by omega
  simp only[execOp,ho,r1',r2',Instr.index]
  refine(z'a (a:= .int .u8 (s.data.toList.getD n.toNat 0).toNat) (w':=w) ?_).trans rfl
  rw[z'a (a:=(k,n)) (w':=w) rfl,z'a (run_underlying hu w)]
  have hb:(if 0≤n then s[n.toNat]? else none)=some s[n.toNat]:=by
   rw[if_pos h0,ByteArray.getElem?_lt' s _ hlt]
  simp only[hb]
  have e:s.data.toList.getD n.toNat 0=s[n.toNat]:=by
   have hlt':n.toNat<s.data.size:=hlt
   rw[z'e,Array.getElem?_toList,Array.getElem?_eq_getElem hlt']
   rfl
  rw[e]
  rfl
 ·exact hk.elim
def Zj6 (P:Program) (t:TypeId) (x:D) (K:D→Prop):Prop:=(∃d,P.underlying t=some d∧ ∀ms,d≠ .interface ms)∧K (.ifc t x)
theorem Zlx {P:Program} {o:Oper} {E:Operand→D} {H:Heap} {K:D→Heap→Prop} {t:TypeId} {x:Operand} (ho:o.op= .makeInterface t x) (hk:Zj6 P t (E x) (K · H)):Op1 P o E H K:=by
 obtain⟨⟨d,hu,hd⟩,hk⟩:=hk
 refine Op1.value (d:= .ifc t (E x)) (fun w L0 ε hi hx=>?_) hk
 have r1:=hx x (by simp[ho,Op.operands])
 refine⟨.iface t (ε x),?_,_,rfl,r1⟩
 simp only[execOp,ho,Instr.makeInterface]
 refine(z'a (a:= .iface t (ε x)) (w':=w) ?_).trans rfl
 rw[z'a (run_underlying hu w)]
 cases d<;>first|rfl|exact absurd rfl (hd _)
def opC {P:Program} (T:Tab P) (o:Oper) (E:Operand→D) (H:Heap) (K:D→Heap→Prop):Prop:=
 match o.op with
 | .move x=>K (E x) H
 | .assign x=>K (E x) H
 | .pick c a b=>cPick (E c) (E a) (E b) (K · H)
 | .binOp op t x y _=>match kdT (T.get t)with
  | .struct _=>Op1 P o E H K
  |kd=>cBin kd op (E x) (E y) (K · H)
 | .unOp op _ x=>cUn op (E x) (K · H)
 | .load t x=>cLoad (T.get t) (E x) H (K · H)
 | .fieldAddr t x f=>cFieldAddr (fieldAt (kdT (T.get t)) f) (E x) (K · H)
 | .field t x f=>cField (fieldAt (kdT (T.get t)) f) (E x) (K · H)
 | .indexAddr t x i=>cIndexAddr (kdT (T.get t)) (E x) (E i) (K · H)
 | .index t x i=>cIndex (kdT (T.get t)) (E x) (E i) (K · H)
 | .extract x i=>cExtract (E x) i (K · H)
 | .nilCheck x=>cNil (E x) (K · H)
 | .build t ps=>cBuild (T.get t) (ps.toList.map fun p=>(p.1,E p.2)) (K · H)
 | .alloc t=>cAlloc t (T.get t) H K
 | .box t x=>cBox t (E x) H K
 | .store t a x=>(T.get t).known=true∧cStore (T.get t).size (E a) (E x) H K
 | .buildSlice t n ps=>cBuildSlice (kdT (T.get t)) n (ps.toList.map fun p=>(p.1,E p.2)) H K
 | .makeSlice t l c=>cMake (kdT (T.get t)) (E l) (E c) H K
 | .slice t x lo hi mx=>cSlice (kdT (T.get t)) (E x) (lo.map E) (hi.map E) (mx.map E) (K · H)
 | .convert t u x=>cConvS (kdElem T.get (kdT (T.get t))) (kdT (T.get t)) (kdT (T.get u)) (E x) (K · H)
 | .range t x=>cRange (kdT (T.get t)) (E x) H K
 | .next x s=>cNext (E x) s H K
 | .makeInterface t x=>Zj6 P t (E x) (K · H)
 | .call ⟨.builtin .len,as,ts⟩=>
  match as.toList,ts.toList with
  |[x],[t]=>cLen (kdT (T.get t)) (E x) (K · H)
  |_,_=>False
 | .call ⟨.builtin .append,as,ts⟩=>
  match as.toList,ts.toList with
  |[s,x],[t,u]=>match Nat.beq t u with
   |true=>cAppS (kdT (T.get t)) (E s) (E x) H K
   |false=>False
  |_,_=>False
 |_=>Op1 P o E H K
theorem x'L {P:Program} (T:Tab P) {o:Oper} {E:Operand→D} {H:Heap} {K:D→Heap→Prop} (h:opC T o E H K):Op1 P o E H K:=by
 unfold opC at h
 split at h
 ·rename_i ho;exact Zei (.inl ho) h
 ·rename_i ho;exact Zei (.inr ho) h
 ·rename_i ho;exact ZjX ho h
 ·rename_i ho
  split at h
  ·exact h
  ·exact Zlv T ho h
 ·rename_i ho;exact Znk ho h
 ·rename_i ho;exact ZgP T ho h
 ·rename_i ho;exact Zdj T ho h
 ·rename_i ho;exact ZhR T ho h
 ·rename_i ho;exact Zdk T ho h
 ·rename_i ho;exact ZhT T ho h
 ·rename_i ho;exact Zfk ho h
 ·rename_i ho;exact Zly ho h
 ·rename_i t ps ho;exact ZhQ T (ps:=ps.toList) (by simpa using ho) h
 ·rename_i ho;exact ZhP T ho h
 ·rename_i ho;exact Zlw ho h
 ·rename_i ho;exact ZhX T ho h.1 h.2
 ·rename_i t n ps ho;exact ZcE T (ps:=ps.toList) (by simpa using ho) h
 ·rename_i ho;exact ZjV T ho h
 ·rename_i ho;exact ZhW T ho h
 ·rename_i ho;exact ZeW T ho h
 ·rename_i ho;exact ZhV T ho h
 ·rename_i ho;exact ZgQ ho h
 ·rename_i ho;exact Zlx ho h
 ·rename_i as ts ho
  split at h
  ·rename_i x t hx ht
   have e1:as= #[x]:=by rw[←Array.toList_inj];exact hx
   have e2:ts= #[t]:=by rw[←Array.toList_inj];exact ht
   subst e1;subst e2
   exact ZiR T ho h
  ·exact h.elim
 ·rename_i as ts ho
  split at h
  ·rename_i s x t u hx ht
   have e1:as= #[s,x]:=by rw[←Array.toList_inj];exact hx
   have e2:ts= #[t,u]:=by rw[←Array.toList_inj];exact ht
   subst e1;subst e2
   split at h
   ·rename_i hb
    obtain rfl:=z'd hb
    exact ZcD T ho h
   ·exact h.elim
  ·exact h.elim
 ·exact h
theorem Zhk {F:Bool→Prop}:x'y true F=F true:=rfl
theorem Zgw {F:Bool→Prop}:x'y false F=F false:=rfl
def sameB:Bool→Bool→Bool
 |true,true=>true
 |false,false=>true
 |_,_=>false
section
variable {P : Program} (T : Tab P) {n : Nat} {ops : Array Oper} {o : Oper} {r : List Oper} {E : Nat → D} {H : Heap} {Q : Exit → St → Prop}
theorem VCo.step (hg:o.guard=none) (hd:y'B n o=true) (h: ∀K:(Nat→D)→Heap→Prop,(∀E H,VCo P n ops r ⟨E,H⟩ Q→K E H)→opC T o (evD E) H (fun d H'=>K (updO E o.dst d) H')):
  VCo P n ops (o::r) ⟨E,H⟩ Q:=VCo.cons hg hd fun K hK=>x'L T (h (fun E H=>K ⟨E,H⟩) (fun E H hv=>hK _ hv))
theorem VCr.step (hd:y'B n o=true) (h: ∀K:(Nat→D)→Heap→Prop,(∀E H,VCo P n ops r ⟨E,H⟩ Q→K E H)→opC T o (evD E) H (fun d H'=>K (updO E o.dst d) H')):
  VCr P n ops o r ⟨E,H⟩ Q:=VCr.run hd fun K hK=>x'L T (h (fun E H=>K ⟨E,H⟩) (fun E H hv=>hK _ hv))
theorem VCo.gstep {j g:Nat} {want t:Bool} (hg:o.guard=some (j,want)) (hj:(ops[j]?).bind (·.dst)=some g) (hgn:Nat.blt g n=true) (hd:y'B n o=true) (ht:E g= .is (.bool t))
  (h:x'y t fun t'=>bif sameB t' want then VCr P n ops o r ⟨upd E g (.is (.bool t')),H⟩ Q else VCo P n ops r ⟨updO (upd E g (.is (.bool t'))) o.dst (.is undef),H⟩ Q):
  VCo P n ops (o::r) ⟨E,H⟩ Q:=
 VCo.guard (s:=⟨E,H⟩) hg hj hgn hd ht (by
  have h1:=x'N h
  have e: ∀a b:Bool,sameB a b=(a == b):=by decide
  rw[e]at h1
  cases t<;>cases want<;>exact h1)
theorem x'7 {t:Tmp} {Φ:D→Heap→Prop} {H':Heap} (hs:H'.Sublist H) (h:Φ (E t) H'):z'Z T [.tmp t] Φ .ret ⟨E,H⟩:=⟨[E t],H',⟨[],rfl,rfl⟩,hs,h⟩
theorem ZfG {a t:Tmp} {ty:TypeId} {Φ:D→Heap→Prop} {H':Heap} {b n:Nat} {ty':TypeId} {l:List D} (ha:E a= .is (.pointer (some ⟨b,0,none⟩))) (hb:y'Z H b=some (.cells ty' n l))
  (hk:(T.get ty).known=true) (hz:(T.get ty).size=l.length) (hag:(T.get ty).agg=true) (hs:H'.Sublist H) (h:Φ (.tup [.agg l,E t]) H'):z'Z T [.cell a ty,.tmp t] Φ .ret ⟨E,H⟩:=
 ⟨[.agg l,E t],H',⟨b,ty',n,l,_,ha,y'H hb,hk,hz,by rw[hag],_,rfl,rfl⟩,hs,h⟩
theorem VC.seq' {a b:Code} {s:St} (h:VC P n a s (ZfK (fun s=>VC P n b s Q) Q)):VC P n (.seq a b) s Q:=VC.seq fun K hK=>VC.mono h fun e s=>by
 cases e with
 |normal=>exact hK s
 |_=>exact id
end
def w'F (ops:Array Oper) (i:Nat):List Nat:=match ops[i]? with|some o=>(o.after.toList.filter fun e=>Region.binds .any e).map (·.on)|none=>[]
def v'Y (ops:Array Oper):Nat→Nat→Nat→Bool
 |0,_,_=>false
 |n+1,i,k=>(w'F ops i).any fun e=>e == k||(Nat.blt k e&&v'Y ops n e k)
def z'N (ops:Array Oper) (i k:Nat):Bool:=v'Y ops ops.size i k
theorem z'P {ops : Array Oper} {i e : Nat} : e ∈ w'F ops i ↔ ∃ o ed, ops[i]? = some o ∧ ed ∈ o.after ∧ Region.binds .any ed = true ∧ ed.on = e := by
  unfold w'F
  cases h : ops[i]? with
  | none => simp
  | some o => simp [z'o, y'W]; constructor
              · rintro ⟨ed, ⟨h1, h2⟩, h3⟩; exact ⟨ed, h1, h2, h3⟩
              · rintro ⟨ed, h1, h2, h3⟩; exact ⟨ed, ⟨h1, h2⟩, h3⟩
theorem z'4 {ops:Array Oper} {S:Nat→Prop} (down: ∀j e,S j→e∈w'F ops j→S e): ∀n i k,(∀e,e∈w'F ops i→S e)→v'Y ops n i k=true→S k
 |0,i,k,_,h=>by simp[v'Y]at h
 |n+1,i,k,hi,h=>by
  simp only[v'Y,List.any_eq_true,y'O,z'b,beq_iff_eq]at h
  obtain⟨e,he,h⟩:=h
  rcases h with rfl|⟨_,h⟩
  ·exact hi e he
  ·exact z'4 down n e k (fun e' he'=>down e e' (hi e he) he') h
def z'v (ops:Array Oper) (i:Nat):Option Tmp:=(ops[i]?).bind (·.dst)
def w'H (ops:Array Oper) (i:Nat):List Tmp:=match ops[i]? with|some o=>o.looksAt ops|none=>[]
def x'I (ops:Array Oper) (f:Nat):Bool:=
 Nat.ble f ops.size&&
 ((List.range ops.size).all fun i=>match ops[i]? with|some o=>o.after.toList.all fun e=> !Region.binds .any e||Nat.blt e.on i|none=>true)&&
 ((List.range f).all fun i=>(w'H ops i).all fun t=>(List.range ops.size).all fun k=>k == i|| !(z'v ops k == some t)||(Nat.blt k i&&z'N ops i k)||(Nat.blt i k&&(Nat.ble f k||z'N ops k i)))&&
 ((List.range f).all fun i=>(List.range f).all fun k=>k == i||(z'v ops i).isNone|| !(z'v ops k == z'v ops i))&&
 ((List.range ops.size).all fun j=>Nat.blt j f||(List.range j).all fun k=>z'N ops j k)
structure y'2 (ops:Array Oper) (f:Nat):Prop where
 le:f≤ops.size
 back: ∀i o,ops[i]?=some o→ ∀e∈o.after,Region.binds .any e=true→e.on<i
 reads: ∀i,i<f→ ∀t∈w'H ops i, ∀k,k<ops.size→k≠i→z'v ops k=some t→(k<i∧z'N ops i k=true)∨(i<k∧(f≤k∨z'N ops k i=true))
 uniq: ∀i k,i<f→k<f→k≠i→z'v ops i≠none→z'v ops k≠z'v ops i
 tail: ∀j,j<ops.size→f≤j→ ∀k,k<j→z'N ops j k=true
theorem x'f {ops:Array Oper} {f:Nat} (h:x'I ops f=true):y'2 ops f:=by
 simp only[x'I,z'b,z'h,z'J,y'O,Nat.ble_eq,Nat.blt_eq,beq_iff_eq,x'j,beq_eq_false_iff_ne,ne_eq]at h
 obtain⟨⟨⟨⟨h1,h2⟩,h3⟩,h4⟩,h5⟩:=h
 refine⟨h1,fun i o hi e he hb=>?_,fun i hi t ht k hk hki hd=>?_,fun i k hi hk hki hn=>?_,fun j hj hf k hk=>?_⟩
 ·have hlt:i<ops.size:=by
   rcases z't i ops.size with h'|h'
   ·exact h'
   ·simp[y'e h']at hi
  have:=h2 i hlt
  rw[hi]at this
  simp only[z'h,y'O,x'j,Nat.blt_eq]at this
  rcases this e (y'A.2 he)with h'|h'
  ·rw[hb]at h';cases h'
  ·exact h'
 ·rcases h3 i hi t ht k hk with((h'|h')|h')|h'
  ·exact absurd h' hki
  ·exact absurd hd h'
  ·exact .inl h'
  ·exact .inr ⟨h'.1,h'.2⟩
 ·rcases h4 i hi k hk with(h'|h')|h'
  ·exact absurd h' hki
  ·exact absurd (Option.isNone_iff_eq_none.1 h') hn
  ·exact h'
 ·rcases h5 j hj with h'|h'
  ·omega
  ·exact h' k hk
inductive NewI where
 |cells (ty:TypeId) (z:List D)
 |own (Φ:D→Heap→Prop)
def NewI.says:NewI→D→Heap→Prop
 | .cells ty z,d,Hk=> ∃b,d= .is (.pointer (some ⟨b,0,none⟩))∧Hk=[(b,.cells ty z.length z)]
 | .own Φ,d,Hk=>Φ d Hk
inductive FRes where
 |det (d:D)
 |skip
 |new (n:NewI)
def FRes.d:FRes→D
 | .det d=>d
 | .skip=> .is undef
 | .new _=> .any
def y'p (ops:Array Oper) (i:Nat) (E0:Nat→D) (res:Nat→FRes):Nat→Nat→D
 |0=>E0
 |j+1=>updO (y'p ops i E0 res j) (z'v ops (i+j)) (res (i+j)).d
def ZaB:FRes→Option Tmp→List (Tmp×NewI)
 | .new n,some t=>[(t,n)]
 |_,_=>[]
theorem x'h (d:D) (x:Option Tmp):ZaB (.det d) x=[]:=by cases x<;>rfl
theorem w'S (x:Option Tmp):ZaB .skip x=[]:=by cases x<;>rfl
def v'o (ops:Array Oper) (res:Nat→FRes) (i:Nat):List (Tmp×NewI):=ZaB (res i) (z'v ops i)
def x'E (ops:Array Oper) (res:Nat→FRes):Nat→Nat→List (Tmp×NewI)
 |_,0=>[]
 |i,m+1=>v'o ops res i++x'E ops res (i+1) m
def FOk (P:Program) (ops:Array Oper) (E:Nat→D) (H:Heap) (o:Oper):FRes→Prop
 | .det d=>(o.guard=none∨ ∃j want g,o.guard=some (j,want)∧z'v ops j=some g∧E g= .is (.bool want))∧OpS P o (evD E) H (fun d' H'=>d'=d∧H'=H)
 | .skip=> ∃j want g,o.guard=some (j,want)∧z'v ops j=some g∧(E g= .is (.bool (!want))∨E g= .is undef)
 | .new n=>(o.guard=none∨ ∃j want g,o.guard=some (j,want)∧z'v ops j=some g∧E g= .is (.bool want))∧(∃t,o.dst=some t)∧OpS P o (evD E) H (fun d H'=> ∃Hk,n.says d Hk∧H'=Hk++H)
def VCf {P:Program} (T:Tab P) (ops:Array Oper) (H:Heap) (K:(Nat→D)→List (Tmp×NewI)→Prop):Nat→Nat→(Nat→D)→List (Tmp×NewI)→Prop
 |0,_,E,news=>K E news
 |m+1,i,E,news=> ∃o r,ops[i]?=some o∧FOk P ops E H o r∧
   VCf T ops H K m (i+1) (updO E o.dst r.d) (news++ZaB r o.dst)
section
variable {P : Program} (T : Tab P) {ops : Array Oper} {H : Heap} {K : (Nat → D) → List (Tmp × NewI) → Prop} {m i : Nat} {E : Nat → D} {news : List (Tmp × NewI)} {o : Oper}
theorem VCf.nil (h:K E news):VCf T ops H K 0 i E news:=h
theorem w'T {d:D} (h:opC T o (evD E) H (fun d' H'=>d'=d∧H'=H)):OpS P o (evD E) H (fun d' H'=>d'=d∧H'=H):=
 let ⟨_,h1,h2⟩:=x'L T h
 h1.mono h2
theorem VCf.step {d:D} (ho:ops[i]?=some o) (hg:o.guard=none) (h1:opC T o (evD E) H (fun d' H'=>d'=d∧H'=H)) (h2:VCf T ops H K m (i+1) (updO E o.dst d) news):VCf T ops H K (m+1) i E news:=
 ⟨o,.det d,ho,⟨.inl hg,w'T T h1⟩,by rw[x'h,z'x];exact h2⟩
theorem Zfg {t:TypeId} {E:Operand→D} {H:Heap} (hop:o.op= .alloc t) (hk:(T.get t).known=true) (hz:((T.get t).zero.map constD).all oneD=true):
  OpS P o E H (fun d H'=> ∃Hk,(NewI.cells t ((T.get t).zero.map constD)).says d Hk∧H'=Hk++H):=by
 intro w L0 ε hi hx
 obtain⟨d,inf,z,hu,hinf,hz',_,_,hsz,hzl,hlen,_⟩:=T.facts hk
 have hrun:(execOp ε o).run P w= .ok (.value (.pointer (some ⟨w.heap.size,0,none⟩))) (w.alloc (.cells z.cells t)):=by
  simp only[execOp,hop,Instr.alloc]
  refine(z'a (a:= .pointer (some ⟨w.heap.size,0,none⟩)) (w':=w.alloc (.cells z.cells t)) ?_).trans rfl
  refine(z'a (a:=z) (w':=w) (by unfold zeroValue;rw[z'a (w'x hinf w),hz'];rfl)).trans ?_
  rfl
 rw[hrun]
 refine⟨.is (.pointer (some ⟨w.heap.size,0,none⟩)),(w.heap.size,.cells t ((T.get t).zero.map constD).length ((T.get t).zero.map constD))::H,⟨[_],⟨w.heap.size,rfl,rfl⟩,rfl⟩,rfl,?_,?_⟩
 all_goals
  have hkeep:Keeps w (live H L0) (w.alloc (.cells z.cells t)) (live ((w.heap.size,.cells t ((T.get t).zero.map constD).length ((T.get t).zero.map constD))::H) L0):=fun b hb hn=>⟨x'u w _ b hb,fun hl=>by
   rcases hl with hl|hl
   ·exact hn (.inl hl)
   ·simp only[Heap.blocks,z'g,z'p]at hl
    rcases hl with hl|hl
    ·omega
    ·exact hn (.inr hl)⟩
 ·refine{rel:=fun b c hm=>?_,nodup:=?_,apart:=fun b hb hL=>?_,old:=fun b hL=>?_}
  ·rcases z'p.1 hm with hm|hm
   ·cases hm
    refine⟨hz,z.cells,heap_alloc_new w _,by rw[z'f, ←hzl,z'C],?_⟩
    rw[z'O (by rw[z'f, ←hzl];exact z'c _),hzl]
    exact w'D _ _ _
   ·exact(hi.rel b c hm).mono hkeep (x'u w _ b (hi.lt (z'o.2 ⟨_,hm,rfl⟩)))
  ·simp only[Heap.blocks,z'g,y'm]
   exact⟨fun h=>by have:=hi.lt h;omega,hi.nodup⟩
  ·simp only[Heap.blocks,z'g,z'p]at hb
   rcases hb with rfl|hb
   ·have:=hi.old _ hL;omega
   ·exact hi.apart b hb hL
  ·have:=hi.old b hL;simp;omega
 ·refine⟨rfl,rfl,rfl,by simp,fun b hb _=>x'u w _ b hb,fun b hb=>?_⟩
  simp only[Heap.blocks,z'g,z'p]at hb
  rcases hb with rfl|hb
  ·exact .inr (z'c _)
  ·exact .inl hb
theorem VCf.alloc {t:TypeId} {s:Tmp} (ho:ops[i]?=some o) (hg:o.guard=none) (hop:o.op= .alloc t) (hd:o.dst=some s) (hk:(T.get t).known=true) (hz:((T.get t).zero.map constD).all oneD=true)
  (h2:VCf T ops H K m (i+1) (upd E s .any) (news++[(s,.cells t ((T.get t).zero.map constD))])):VCf T ops H K (m+1) i E news:=
 ⟨o,.new (.cells t ((T.get t).zero.map constD)),ho,⟨.inl hg,⟨s,hd⟩,Zfg T hop hk hz⟩,by rw[hd];exact h2⟩
theorem VCf.gstep {j g:Nat} {want t:Bool} (ho:ops[i]?=some o) (hg:o.guard=some (j,want)) (hj:(ops[j]?).bind (·.dst)=some g) (ht:E g= .is (.bool t))
  (h:x'y t fun t'=>bif sameB t' want then(∃d,opC T o (evD (upd E g (.is (.bool t')))) H (fun d' H'=>d'=d∧H'=H)∧VCf T ops H K m (i+1) (updO (upd E g (.is (.bool t'))) o.dst d) news)
   else VCf T ops H K m (i+1) (updO (upd E g (.is (.bool t'))) o.dst (.is undef)) news):VCf T ops H K (m+1) i E news:=by
 have h1:=x'N h
 simp only[x'A ht]at h1
 have e: ∀a b:Bool,sameB a b=(a == b):=by decide
 rw[e]at h1
 by_cases hw:t=want
 ·subst hw
  rw[beq_self_eq_true,cond_true]at h1
  obtain⟨d,h2,h3⟩:=h1
  exact⟨o,.det d,ho,⟨.inr ⟨j,t,g,hg,hj,ht⟩,w'T T h2⟩,by rw[x'h,z'x];exact h3⟩
 ·have hb:(t == want)=false:=by simpa using hw
  rw[hb,cond_false]at h1
  have:t= !want:=by cases t<;>cases want<;>first|rfl|exact absurd rfl hw
  exact⟨o,.skip,ho,⟨j,want,g,hg,hj,.inl (this▸ht)⟩,by rw[w'S,z'x];exact h1⟩
end
def Za4:List (Tmp×NewI)→(Nat→D)→Heap→((Nat→D)→Heap→Prop)→Prop
 |[],E,H,K=>K E H
 |(t,.cells ty z)::r,E,H,K=> ∀b,b∉H.blocks→Za4 r (upd E t (.is (.pointer (some ⟨b,0,none⟩)))) ((b,.cells ty z.length z)::H) K
 |(t,.own Φ)::r,E,H,K=> ∀d Hk,Φ d Hk→(∀b,b∈Hk.blocks→b∉H.blocks)→Za4 r (upd E t d) (Hk++H) K
theorem Zja {t:Tmp} {n:NewI} {r:List (Tmp×NewI)} {E:Nat→D} {H:Heap} {K:(Nat→D)→Heap→Prop} (h:Za4 ((t,n)::r) E H K) {d:D} {Hk:Heap} (hs:n.says d Hk)
  (ha: ∀b,b∈Hk.blocks→b∉H.blocks):Za4 r (upd E t d) (Hk++H) K:=by
 cases n with
 |cells ty z=>
  obtain⟨b,rfl,rfl⟩:=hs
  exact h b (ha b (by simp[Heap.blocks]))
 |own Φ=>exact h d Hk hs ha
theorem ZbB {ops:Array Oper} {res:Nat→FRes} {i:Nat} {E:Nat→D}: ∀j,y'p ops i E res (j+1)=y'p ops (i+1) (updO E (z'v ops i) (res i).d) res j
 |0=>rfl
 |j+1=>by
  rw[y'p,ZbB j,y'p,show i+(j+1)=i+1+j by omega]
theorem Zab {ops:Array Oper} {res res':Nat→FRes} {i:Nat} {E:Nat→D} (h: ∀k,i≤k→res k=res' k): ∀j,y'p ops i E res j=y'p ops i E res' j
 |0=>rfl
 |j+1=>by rw[y'p,y'p,Zab h j,h _ (by omega)]
theorem v'M {ops:Array Oper} {res res':Nat→FRes}: ∀m i,(∀k,i≤k→res k=res' k)→x'E ops res i m=x'E ops res' i m
 |0,_,_=>rfl
 |m+1,i,h=>by
  rw[x'E,x'E,v'M m (i+1) (fun k hk=>h k (by omega)),v'o,v'o,h i (z'c _)]
theorem VCf.extract {P:Program} {T:Tab P} {ops:Array Oper} {H:Heap} {K:(Nat→D)→List (Tmp×NewI)→Prop}: ∀(m i:Nat) (E:Nat→D) (news:List (Tmp×NewI)),VCf T ops H K m i E news→
  ∃res:Nat→FRes,(∀j,j<m→ ∃o,ops[i+j]?=some o∧FOk P ops (y'p ops i E res j) H o (res (i+j)))∧K (y'p ops i E res m) (news++x'E ops res i m)
 |0,i,E,news,h=>⟨fun _=> .skip,fun j hj=>by omega,by rw[x'E,z'x];exact h⟩
 |m+1,i,E,news,h=>by
  obtain⟨o,r,ho,hok,h2⟩:=h
  obtain⟨res',h3,h4⟩:=VCf.extract m (i+1) _ _ h2
  let res:Nat→FRes:=fun k=>if k=i then r else res' k
  have hri:res i=r:=by simp[res]
  have hr: ∀k,i+1≤k→res' k=res k:=fun k hk=>by simp only[res];rw[if_neg (by omega)]
  have hd:z'v ops i=o.dst:=by simp[z'v,ho]
  have hen: ∀j,y'p ops i E res (j+1)=y'p ops (i+1) (updO E o.dst r.d) res' j:=fun j=>by
   rw[ZbB,hri,hd,Zab (fun k hk=>(hr k hk).symm)]
  refine⟨res,fun j hj=>?_,?_⟩
  ·cases j with
   |zero=>exact⟨o,ho,by rw[y'7,hri];exact hok⟩
   |succ j=>
    obtain⟨o',h5,h6⟩:=h3 j (by omega)
    rw[show i+(j+1)=i+1+j by omega]
    refine⟨o',h5,?_⟩
    rw[hen, ←hr _ (by omega)]
    exact h6
  ·rw[hen,x'E,v'M m (i+1) (fun k hk=>(hr k hk).symm)]
   rw[v'o,hri,hd, ←List.append_assoc]
   exact h4
theorem v'Q {ops:Array Oper} {res:Nat→FRes} {E:Nat→D} {t:Tmp}: ∀i,(∀k,k<i→z'v ops k≠some t)→y'p ops 0 E res i t=E t
 |0,_=>rfl
 |i+1,h=>by
  rw[y'p,y'd]
  have h1:=h i (by omega)
  cases hd:z'v ops i with
  |none=>simp only[updO];exact v'Q i fun k hk=>h k (by omega)
  |some s=>
   have hne:(s == t)=false:=by
    rw[beq_eq_false_iff_ne]
    intro e;exact h1 (by rw[hd,e])
   simp only[updO,upd,hne,cond_false]
   exact v'Q i fun k hk=>h k (by omega)
theorem ZaP {ops:Array Oper} {res:Nat→FRes} {E:Nat→D} {t:Tmp} {k:Nat}: ∀i,k<i→z'v ops k=some t→(∀l,l<i→l≠k→z'v ops l≠some t)→y'p ops 0 E res i t=(res k).d
 |0,h,_,_=>by omega
 |i+1,h,hk,hu=>by
  rw[y'p,y'd]
  by_cases e:k=i
  ·subst e
   rw[hk]
   simp[updO,upd]
  ·have h1:=hu i (by omega) (fun e'=>e e'.symm)
   have ih:=ZaP (E:=E) (res:=res) i (by omega) hk fun l hl=>hu l (by omega)
   cases hd:z'v ops i with
   |none=>exact ih
   |some s=>
    have hne:(s == t)=false:=by
     rw[beq_eq_false_iff_ne]
     intro e';exact h1 (by rw[hd,e'])
    simp only[updO,upd,hne,cond_false]
    exact ih
def isL (listed:Array Bool) (k:Nat):Prop:=listed[k]?=some true
theorem y'y {listed:Array Bool} {i k:Nat} (hi:i<listed.size):isL (listed.setIfInBounds i true) k↔k=i∨isL listed k:=by
 unfold isL
 by_cases e:k=i
 ·subst e;simp[hi]
 ·rw[z'3 (Ne.symm e)]
  simp[e]
def L1 (L0:Nat→Prop) (res:Nat→FRes) (blk:Nat→List Nat) (listed:Array Bool):Nat→Prop:=
 fun b=>L0 b∨ ∃k n,isL listed k∧res k= .new n∧b∈blk k
structure FInv (x:Ctx) (ops:Array Oper) (f:Nat) (res:Nat→FRes) (H:Heap) (a0:Act) (ws:World) (blk:Nat→List Nat) (listed:Array Bool) (a:Act) (w:World):Prop where
 lsize:listed.size=ops.size
 down: ∀k o,ops[k]?=some o→isL listed k→ ∀e∈o.after,Region.binds .any e=true→isL listed e.on
 front: ∀k,isL listed k→k<f
 slots: ∀k t,isL listed k→z'v ops k=some t→match res k with
  | .det d=>Rel w (live H (L1 x.L0 res blk listed)) d (a.tmps.getD t undef)
  | .skip=>a.tmps.getD t undef=undef
  | .new n=> ∃d Hk,n.says d Hk∧Hk.blocks=blk k∧Hk.blocks.Nodup∧Rel w (live H (L1 x.L0 res blk listed)) d (a.tmps.getD t undef)∧ ∀b c,(b,c)∈Hk→HRel w (live H (L1 x.L0 res blk listed)) b c
 blks: ∀k n,isL listed k→res k= .new n→ ∀b,b∈blk k→ws.heap.size≤b∧b<w.heap.size
 inj: ∀k l n n',isL listed k→isL listed l→res k= .new n→res l= .new n'→ ∀b,b∈blk k→b∈blk l→k=l
 rest: ∀t,(∀k,isL listed k→z'v ops k≠some t)→a.tmps.getD t undef=a0.tmps.getD t undef
 inv:HInv w (L1 x.L0 res blk listed) H
 evo:Evo ws H w H
 defers:a.defers=x.ds
 size:a.tmps.size=x.n
theorem FInv.keeps {x:Ctx} {ops:Array Oper} {f:Nat} {res:Nat→FRes} {H:Heap} {a0:Act} {ws:World} {blk:Nat→List Nat} {listed:Array Bool} {a:Act} {w:World}
  (h:FInv x ops f res H a0 ws blk listed a w):Keeps ws (live H x.L0) w (live H (L1 x.L0 res blk listed)):=fun b hb hn=>
 ⟨h.evo.block b hb (fun hm=>hn (.inr hm)),fun hl=>by
  rcases hl with(hl|⟨k,n,h1,h2,h3⟩)|hl
  ·exact hn (.inl hl)
  ·have:=(h.blks k n h1 h2 b h3).1;omega
  ·exact hn (.inr hl)⟩
theorem z'8 {ops:Array Oper} {listed:Array Bool} {i:Nat} (hs:listed.size=ops.size) (h:i∈Region.ready .any ops listed):
  i<ops.size∧ ¬isL listed i∧ ∃o,ops[i]?=some o∧ ∀e∈o.after,Region.binds .any e=true→isL listed e.on:=by
 obtain⟨h1,o,h2,h3⟩:=mem_ready.1 h
 have hlt:i<ops.size:=by
  rcases z't i ops.size with h'|h'
  ·exact h'
  ·simp[y'e h']at h2
 refine⟨hlt,fun hl=>?_,o,h2,fun e he hb=>?_⟩
 ·unfold isL at hl
  rw[z'w,hl]at h1
  cases h1
 ·have:=h3 e he hb
  rw[z'w]at this
  unfold isL
  cases hq:listed[e.on]? with
  |none=>rw[hq]at this;cases this
  |some b=>rw[hq]at this;simpa using this
section
variable {P : Program} {x : Ctx} {ops : Array Oper} {f : Nat} {res : Nat → FRes} {H : Heap} {E : Nat → D} {a0 : Act} {ws : World}
theorem FInv.look (hB:y'2 ops f) (hs0:SRel x ⟨E,H⟩ a0 ws) {blk:Nat→List Nat} {listed:Array Bool} {a:Act} {w:World} (h:FInv x ops f res H a0 ws blk listed a w)
  {i:Nat} {o:Oper} (ho:ops[i]?=some o) (hif:i<f) (hil: ¬isL listed i) (hready: ∀e∈o.after,Region.binds .any e=true→isL listed e.on) {t:Tmp} (ht:t∈w'H ops i):
  Rel w (live H (L1 x.L0 res blk listed)) (y'p ops 0 E res i t) (a.tmps.getD t undef):=by
 have hdown: ∀j e,isL listed j→e∈w'F ops j→isL listed e:=fun j e hj he=>by
  obtain⟨oj,ed,h1,h2,h3,rfl⟩:=z'P.1 he
  exact h.down j oj h1 hj ed h2 h3
 have edge: ∀k,z'N ops i k=true→isL listed k:=fun k hk=>
  z'4 hdown _ i k (fun e he=>by
   obtain⟨oj,ed,h1,h2,h3,rfl⟩:=z'P.1 he
   rw[ho]at h1;cases h1
   exact hready ed h2 h3) hk
 have edgeBack: ∀k,isL listed k→z'N ops k i=true→False:=fun k hk he=>
  hil (z'4 hdown _ k i (fun e he=>hdown k e hk he) he)
 by_cases hex: ∃k,k<i∧z'v ops k=some t
 ·obtain⟨k,hki,hkt⟩:=hex
  have hkl:isL listed k:=by
   have hksz:k<ops.size:=z'm (Nat.lt_trans hki hif) hB.le
   rcases hB.reads i hif t ht k hksz (by omega) hkt with⟨_,h1⟩|⟨h1,_⟩
   ·exact edge k h1
   ·omega
  have he:=ZaP (E:=E) (res:=res) i hki hkt (fun l hl hne hd=>hB.uniq k l (by omega) (by omega) hne (by rw[hkt];simp) (by rw[hd,hkt]))
  rw[he]
  have hsl:=h.slots k t hkl hkt
  cases hr:res k with
  |det d=>rw[hr]at hsl;exact hsl
  |skip=>rw[hr]at hsl;exact hsl
  |new n=>trivial
 ·have he:=v'Q (E:=E) (res:=res) (t:=t) i (fun k hk hd=>hex ⟨k,hk,hd⟩)
  rw[he,h.rest t ?_]
  ·exact Rel.mono h.keeps _ _ (hs0.env t)
  ·intro k hkl hkt
   have hksz:k<ops.size:=z'm (h.front k hkl) hB.le
   have hne:k≠i:=fun e=>hil (e▸hkl)
   have hki: ¬k<i:=fun hlt=>hex ⟨k,hlt,hkt⟩
   rcases hB.reads i hif t ht k hksz hne hkt with⟨h1,_⟩|⟨_,h1⟩
   ·omega
   ·rcases h1 with h1|h1
    ·have:=h.front k hkl;omega
    ·exact edgeBack k hkl h1
theorem FInv.ev (hB:y'2 ops f) (hs0:SRel x ⟨E,H⟩ a0 ws) {blk:Nat→List Nat} {listed:Array Bool} {a:Act} {w:World} (h:FInv x ops f res H a0 ws blk listed a w)
  {i:Nat} {o:Oper} (ho:ops[i]?=some o) (hif:i<f) (hil: ¬isL listed i) (hready: ∀e∈o.after,Region.binds .any e=true→isL listed e.on) (y:Operand) (hy:y∈o.op.operands):
  Rel w (live H (L1 x.L0 res blk listed)) (evD (y'p ops 0 E res i) y) (a.eval y):=by
 cases y with
 |tmp t=>
  refine h.look hB hs0 ho hif hil hready ?_
  unfold w'H
  rw[ho]
  simp only[Oper.looksAt]
  exact z'5 _ (List.mem_filterMap.2 ⟨.tmp t,y'A.2 hy,rfl⟩)
 |const v=>exact v'd _ _ v
 |global g=>rfl
 |func g=>rfl
theorem x'o {a:Act} {dst:Option Tmp} {v:Value} {t:Tmp} {n:Nat} (hs:a.tmps.size=n):((a.put dst v).tmps.getD t undef)=if dst=some t∧t<n then v else a.tmps.getD t undef:=by
 cases dst with
 |none=>simp[Act.put]
 |some k=>
  simp only[Act.put,z'q]
  by_cases e:k=t
  ·subst e
   by_cases hk:k<n
   ·simp[Array.getD,hs,hk]
   ·simp[Array.getD,hs,hk]
  ·rw[if_neg (fun h=>e h.1)]
   simp[z'w,z'3 e]
theorem FInv.next {blk:Nat→List Nat} {listed:Array Bool} {a:Act} {w w':World} (hB:y'2 ops f) (h:FInv x ops f res H a0 ws blk listed a w)
  {i:Nat} {o:Oper} (ho:ops[i]?=some o) (hif:i<f) (hil: ¬isL listed i) (hready: ∀e∈o.after,Region.binds .any e=true→isL listed e.on) (hdn: ∀t,o.dst=some t→t<x.n)
  {v:Value} {blk':Nat→List Nat} (hblk: ∀k,isL listed k→blk' k=blk k)
  (hev:Evo w H w' H) (hinv:HInv w' (L1 x.L0 res blk' (listed.setIfInBounds i true)) H)
  (hkeep:Keeps w (live H (L1 x.L0 res blk listed)) w' (live H (L1 x.L0 res blk' (listed.setIfInBounds i true))))
  (hold: ∀k n,isL listed k→res k= .new n→ ∀b,b∈blk k→w'.heap[b]?=w.heap[b]?)
  (hslot:match res i with
   | .det d=>Rel w' (live H (L1 x.L0 res blk' (listed.setIfInBounds i true))) d v
   | .skip=>v=undef
   | .new n=>(∃d Hk,n.says d Hk∧Hk.blocks=blk' i∧Hk.blocks.Nodup∧Rel w' (live H (L1 x.L0 res blk' (listed.setIfInBounds i true))) d v∧ ∀b c,(b,c)∈Hk→HRel w' (live H (L1 x.L0 res blk' (listed.setIfInBounds i true))) b c)∧
     ∀b,b∈blk' i→w.heap.size≤b∧b<w'.heap.size):
  FInv x ops f res H a0 ws blk' (listed.setIfInBounds i true) (a.put o.dst v) w':=by
 have hisz:i<listed.size:=by rw[h.lsize];exact z'm hif hB.le
 have hm: ∀k,isL (listed.setIfInBounds i true) k↔k=i∨isL listed k:=fun k=>y'y hisz
 have hd:z'v ops i=o.dst:=by simp[z'v,ho]
 refine{lsize:=by simp[h.lsize],down:=?_,front:=?_,slots:=?_,blks:=?_,inj:=?_,rest:=?_,inv:=hinv,evo:=h.evo.trans hev,defers:=?_,size:=?_}
 ·intro k ok hok hk e he hb
  rw[hm]at hk⊢
  rcases hk with rfl|hk
  ·rw[ho]at hok;cases hok
   exact .inr (hready e he hb)
  ·exact .inr (h.down k ok hok hk e he hb)
 ·intro k hk
  rcases(hm k).1 hk with rfl|hk
  ·exact hif
  ·exact h.front k hk
 ·intro k t hk hkt
  rcases(hm k).1 hk with rfl|hk
  ·rw[hd]at hkt
   have e:(a.put o.dst v).tmps.getD t undef=v:=by rw[x'o h.size,if_pos ⟨hkt,hdn t hkt⟩]
   rw[e]
   cases hr:res k with
   |det d=>rw[hr]at hslot;exact hslot
   |skip=>rw[hr]at hslot;exact hslot
   |new n=>rw[hr]at hslot;exact hslot.1
  ·have hne:k≠i:=fun e=>hil (e▸hk)
   have e:(a.put o.dst v).tmps.getD t undef=a.tmps.getD t undef:=by
    rw[x'o h.size,if_neg]
    rintro⟨h1,_⟩
    rw[←hd]at h1
    exact hB.uniq i k hif (h.front k hk) hne (by rw[h1];simp) (by rw[hkt,h1])
   rw[e]
   have hsl:=h.slots k t hk hkt
   cases hr:res k with
   |det d=>rw[hr]at hsl;exact Rel.mono hkeep _ _ hsl
   |skip=>rw[hr]at hsl;exact hsl
   |new n=>
    rw[hr]at hsl
    obtain⟨d,Hk,h1,h2,h3,h4,h5⟩:=hsl
    refine⟨d,Hk,h1,by rw[hblk k hk];exact h2,h3,Rel.mono hkeep _ _ h4,fun b c hbc=>(h5 b c hbc).mono hkeep (hold k n hk hr b ?_)⟩
    rw[←h2]
    exact z'o.2 ⟨(b,c),hbc,rfl⟩
 ·intro k n hk hr b hb
  rcases(hm k).1 hk with rfl|hk
  ·rw[hr]at hslot
   have:=hslot.2 b hb
   exact⟨z'E h.evo.size this.1,this.2⟩
  ·rw[hblk k hk]at hb
   have:=h.blks k n hk hr b hb
   exact⟨this.1,z'm this.2 hev.size⟩
 ·intro k l n n' hk hl hrk hrl b hbk hbl
  rcases(hm k).1 hk with e1|hk1
  ·rcases(hm l).1 hl with e2|hl1
   ·rw[e1,e2]
   ·subst e1
    rw[hrk]at hslot
    rw[hblk l hl1]at hbl
    have:=(h.blks l n' hl1 hrl b hbl).2
    have:=(hslot.2 b hbk).1
    omega
  ·rcases(hm l).1 hl with e2|hl1
   ·subst e2
    rw[hrl]at hslot
    rw[hblk k hk1]at hbk
    have:=(h.blks k n hk1 hrk b hbk).2
    have:=(hslot.2 b hbl).1
    omega
   ·rw[hblk k hk1]at hbk
    rw[hblk l hl1]at hbl
    exact h.inj k l n n' hk1 hl1 hrk hrl b hbk hbl
 ·intro t hno
  rw[x'o h.size,if_neg]
  ·exact h.rest t fun k hk=>hno k ((hm k).2 (.inr hk))
  ·rintro⟨h1,_⟩
   exact hno i ((hm i).2 (.inl rfl)) (by rw[hd,h1])
 ·cases o.dst<;>exact h.defers
 ·cases o.dst<;>simp[Act.put,h.size]
theorem FInv.step (hB:y'2 ops f) (hs0:SRel x ⟨E,H⟩ a0 ws) {Q:Exit→Act→World→Prop} {blk:Nat→List Nat} {listed:Array Bool} {a:Act} {w:World} (h:FInv x ops f res H a0 ws blk listed a w)
  (hdst: ∀k t,z'v ops k=some t→t<x.n)
  {i:Nat} (hr:i∈Region.ready .any ops listed) (hif:i<f) (hok: ∃o,ops[i]?=some o∧FOk P ops (y'p ops 0 E res i) H o (res i)):
  wpOp P ops Q i (fun a' w'=> ∃blk',FInv x ops f res H a0 ws blk' (listed.setIfInBounds i true) a' w') a w:=by
 obtain⟨hisz,hil,o,ho,hready⟩:=z'8 h.lsize hr
 obtain⟨o',ho',hfok⟩:=hok
 rw[ho]at ho';cases ho'
 have hisz':i<listed.size:=by rw[h.lsize];exact hisz
 have hm: ∀k,isL (listed.setIfInBounds i true) k↔k=i∨isL listed k:=fun k=>y'y hisz'
 have hdi:z'v ops i=o.dst:=by simp[z'v,ho]
 have hdn: ∀t,o.dst=some t→t<x.n:=fun t ht=>hdst i t (by rw[hdi,ht])
 have ev:=fun y hy=>h.ev hB hs0 ho hif hil hready y hy
 have yld: ∀j want g b,o.guard=some (j,want)→z'v ops j=some g→y'p ops 0 E res i g= .is (.bool b)→yielded ops a.tmps j=some b:=by
  intro j want g b hg hj he
  have hlk:g∈w'H ops i:=by
   unfold w'H
   rw[ho]
   simp only[Oper.looksAt,hg]
   refine y's _ ?_
   have:(ops[j]?).bind (·.dst)=some g:=hj
   rw[this];simp
  have h1:=h.look hB hs0 ho hif hil hready hlk
  rw[he]at h1
  have hgn:=hdst j g hj
  have h2:a.tmps[g]?=some (.bool b):=by
   have hlt:g<a.tmps.size:=by rw[h.size];exact hgn
   have h3:a.tmps.getD g undef= .bool b:=h1
   simp[Array.getD,hlt]at h3
   simp[hlt,h3]
  have hj':(ops[j]?).bind (·.dst)=some g:=hj
  simp[yielded,hj',h2]
 have sameL:(∀n,res i≠ .new n)→L1 x.L0 res blk (listed.setIfInBounds i true)=L1 x.L0 res blk listed:=by
  intro hno
  funext b
  simp only[L1,hm]
  refine propext ⟨?_,?_⟩
  ·rintro(h1|⟨k,n,h1,h2,h3⟩)
   ·exact .inl h1
   ·rcases h1 with rfl|h1
    ·exact absurd h2 (hno n)
    ·exact .inr ⟨k,n,h1,h2,h3⟩
  ·rintro(h1|⟨k,n,h1,h2,h3⟩)
   ·exact .inl h1
   ·exact .inr ⟨k,n,.inr h1,h2,h3⟩
 have notH: ∀k n,isL listed k→res k= .new n→ ∀b,b∈blk k→b∉H.blocks:=fun k n hk hrk b hb hmem=>h.inv.apart _ hmem (.inr ⟨k,n,hk,hrk,hb⟩)
 unfold wpOp
 rw[ho]
 simp only
 cases hri:res i with
 |det d=>
  rw[hri]at hfok
  obtain⟨hw,hop⟩:=hfok
  have hwant:Region.wanted o (yielded ops a.tmps)=true:=by
   rcases hw with hg|⟨j,want,g,hg,hj,he⟩
   ·simp[Region.wanted,hg]
   ·simp[Region.wanted,hg,yld j want g want hg hj he]
  rw[if_pos hwant]
  refine .inl ?_
  have hL:=sameL (fun n=>by rw[hri];exact fun h=>nomatch h)
  refine(hop w (L1 x.L0 res blk listed) a.eval h.inv ev).upon ?_
  rintro v w' ⟨d',H',⟨rfl,rfl⟩,hv,hi',he⟩
  refine⟨blk,h.next hB ho hif hil hready hdn (fun _ _=>rfl) he (by rw[hL];exact hi') (by rw[hL];exact he.keeps) (fun k n hk hrk b hb=>he.block _ (h.blks k n hk hrk b hb).2 (notH k n hk hrk b hb)) ?_⟩
  rw[hri,hL]
  exact hv
 |skip=>
  rw[hri]at hfok
  obtain⟨j,want,g,hg,hj,he⟩:=hfok
  have hwant:Region.wanted o (yielded ops a.tmps)=false:=by
   rcases he with he|he
   ·simp only[Region.wanted,hg,yld j want g (!want) hg hj he]
    cases want<;>rfl
   ·have hlk:g∈w'H ops i:=by
     unfold w'H
     rw[ho]
     simp only[Oper.looksAt,hg]
     refine y's _ ?_
     have:(ops[j]?).bind (·.dst)=some g:=hj
     rw[this];simp
    have h1:=h.look hB hs0 ho hif hil hready hlk
    rw[he]at h1
    have hgn:=hdst j g hj
    have h2:a.tmps[g]?=some undef:=by
     have hlt:g<a.tmps.size:=by rw[h.size];exact hgn
     have h3:a.tmps.getD g undef=undef:=h1
     simp[Array.getD,hlt]at h3
     simp[hlt,h3]
    have hj':(ops[j]?).bind (·.dst)=some g:=hj
    have hy:yielded ops a.tmps j=none:=by simp[yielded,hj',h2,undef]
    simp only[Region.wanted,hg,hy]
    rfl
  rw[if_neg (by rw[hwant];exact Bool.false_ne_true)]
  have hL:=sameL (fun n=>by rw[hri];exact fun h=>nomatch h)
  exact⟨blk,h.next hB ho hif hil hready hdn (fun _ _=>rfl) (Evo.refl _ _) (by rw[hL];exact h.inv) (by rw[hL];exact Keeps.refl _ _) (fun _ _ _ _ _ _=>rfl) (by rw[hri])⟩
 |new n=>
  rw[hri]at hfok
  obtain⟨hw,⟨t,ht⟩,hop⟩:=hfok
  have hwant:Region.wanted o (yielded ops a.tmps)=true:=by
   rcases hw with hg|⟨j,want,g,hg,hj,he⟩
   ·simp[Region.wanted,hg]
   ·simp[Region.wanted,hg,yld j want g want hg hj he]
  rw[if_pos hwant]
  refine .inl ?_
  refine(hop w (L1 x.L0 res blk listed) a.eval h.inv ev).upon ?_
  rintro v w' ⟨d,H',⟨Hk,hsay,rfl⟩,hv,hi',he⟩
  let blk':Nat→List Nat:=fun k=>if k=i then Hk.blocks else blk k
  have hbi:blk' i=Hk.blocks:=by simp[blk']
  have hbk: ∀k,isL listed k→blk' k=blk k:=fun k hk=>by
   have hki: ¬k=i:=fun e=>hil (e▸hk)
   simp only[blk',if_neg hki]
  have hmem: ∀b,b∈(Hk++H).blocks↔b∈Hk.blocks∨b∈H.blocks:=fun b=>by simp[Heap.blocks]
  have hnd:Hk.blocks.Nodup∧H.blocks.Nodup∧ ∀b,b∈Hk.blocks→b∉H.blocks:=by
   have:=hi'.nodup
   simp only[Heap.blocks,z'y]at this
   obtain⟨h1,h2,h3⟩:=z'6.1 this
   exact⟨h1,h2,fun b hp hr=>h3 b hp b hr rfl⟩
  have hsub: ∀b,L1 x.L0 res blk' (listed.setIfInBounds i true) b↔b∈Hk.blocks∨L1 x.L0 res blk listed b:=by
   intro b
   constructor
   ·rintro(h1|⟨k,n',h1,h2,h3⟩)
    ·exact .inr (.inl h1)
    ·rcases(hm k).1 h1 with rfl|h1
     ·exact .inl (by rw[←hbi];exact h3)
     ·exact .inr (.inr ⟨k,n',h1,h2,by rw[←hbk k h1];exact h3⟩)
   ·rintro(h1|h1|⟨k,n',h1,h2,h3⟩)
    ·exact .inr ⟨i,n,(hm i).2 (.inl rfl),hri,by rw[hbi];exact h1⟩
    ·exact .inl h1
    ·exact .inr ⟨k,n',(hm k).2 (.inr h1),h2,by rw[hbk k h1];exact h3⟩
  have hsame: ∀b,live H (L1 x.L0 res blk' (listed.setIfInBounds i true)) b↔live (Hk++H) (L1 x.L0 res blk listed) b:=by
   intro b
   simp only[live,hsub,hmem]
   constructor
   ·rintro((h|h)|h)
    ·exact .inr (.inl h)
    ·exact .inl h
    ·exact .inr (.inr h)
   ·rintro(h|h|h)
    ·exact .inl (.inr h)
    ·exact .inl (.inl h)
    ·exact .inr h
  have kk:Keeps w' (live (Hk++H) (L1 x.L0 res blk listed)) w' (live H (L1 x.L0 res blk' (listed.setIfInBounds i true))):=Keeps.less fun b _ hb=>(hsame b).1 hb
  have hfresh: ∀b,b∈Hk.blocks→w.heap.size≤b∧b<w'.heap.size:=fun b hb=>by
   refine⟨?_,hi'.lt ((hmem b).2 (.inl hb))⟩
   rcases he.fresh b ((hmem b).2 (.inl hb))with h1|h1
   ·exact absurd h1 (hnd.2.2 b hb)
   ·exact h1
  have hev:Evo w H w' H:=⟨he.os,he.tape,he.output,he.size,he.block,fun b hb=> .inl hb⟩
  have hkeep:Keeps w (live H (L1 x.L0 res blk listed)) w' (live H (L1 x.L0 res blk' (listed.setIfInBounds i true))):=fun b hb hn=>by
   obtain⟨q1,q2⟩:=he.keeps (L0:=L1 x.L0 res blk listed) b hb hn
   exact⟨q1,fun hl=>q2 ((hsame b).1 hl)⟩
  have hinv:HInv w' (L1 x.L0 res blk' (listed.setIfInBounds i true)) H:=
   {rel:=fun b c hmb=>(hi'.rel b c (y's _ hmb)).mono kk rfl
    nodup:=hnd.2.1
    apart:=fun b hb hl=>by
     rcases(hsub b).1 hl with h1|h1
     ·exact hnd.2.2 b h1 hb
     ·exact hi'.apart b ((hmem b).2 (.inr hb)) h1
    old:=fun b hl=>by
     rcases(hsub b).1 hl with h1|h1
     ·exact(hfresh b h1).2
     ·exact hi'.old b h1}
  refine⟨blk',h.next hB ho hif hil hready hdn hbk hev hinv hkeep (fun k n' hk hrk b hb=>he.block b (h.blks k n' hk hrk b hb).2 (notH k n' hk hrk b hb)) ?_⟩
  rw[hri]
  exact⟨⟨d,Hk,hsay,hbi.symm,hnd.1,Rel.mono kk _ _ hv,fun b c hbc=>(hi'.rel b c (z'5 _ hbc)).mono kk rfl⟩,fun b hb=>hfresh b (by rw[←hbi];exact hb)⟩
def unl (listed:Array Bool) (n:Nat):Nat:=((List.range n).filter fun i=> !listed.getD i true).length
theorem z'H {listed:Array Bool} {i:Nat} (h:i<listed.size):listed.getD i true=true↔isL listed i:=by
 unfold isL
 rw[z'w,Array.getElem?_eq_getElem h]
 simp
theorem z'S (p:Nat→Bool) (m:Nat):([m].filter p).length=if p m=true then 1 else 0:=by cases h:p m<;>simp[h]
theorem v'b {listed:Array Bool} {n i:Nat} (hs:listed.size=n) (hi:i<n) (hn: ¬isL listed i):unl listed n=unl (listed.setIfInBounds i true) n+1:=by
 have key: ∀m,m≤n→((List.range m).filter fun k=> !listed.getD k true).length=((List.range m).filter fun k=> !(listed.setIfInBounds i true).getD k true).length+(if i<m then 1 else 0):=by
  intro m
  induction m with
  |zero=>intro _;rfl
  |succ m ih=>
   intro hm
   rw[z'9,z'G,z'G,z'r,z'r,ih (by omega)]
   by_cases e:m=i
   ·subst e
    have h1:listed.getD m true=false:=by
     cases h:listed.getD m true with
     |false=>rfl
     |true=>exact absurd ((z'H (by omega)).1 h) hn
    have h2:(listed.setIfInBounds m true).getD m true=true:=by simp[Array.getD,hs,hi]
    rw[z'S,z'S,h1,h2]
    simp
   ·have h1:(listed.setIfInBounds i true).getD m true=listed.getD m true:=by
     simp[z'w,z'3 (Ne.symm e)]
    rw[z'S,z'S,h1]
    have h3:(i<m+1)=(i<m):=by
     refine propext ⟨fun h=>by omega,fun h=>by omega⟩
    simp only[h3]
    omega
 have:=key n (z'c _)
 rw[if_pos hi]at this
 exact this
theorem w'6 {listed:Array Bool} {n i:Nat} (hs:listed.size=n) (h:unl listed n=0) (hi:i<n):isL listed i:=by
 unfold unl at h
 have h1:=z'M h
 rw[y'C]at h1
 have:=h1 i (z'J.2 hi)
 have h2:listed.getD i true=true:=by simpa using this
 exact(z'H (by omega)).1 h2
theorem Zb9 (hB:y'2 ops f) {Q:Exit→Act→World→Prop}: ∀(fuel j:Nat) (listed:Array Bool) (a:Act) (w:World),j+fuel=ops.size→f≤j→listed.size=ops.size→
  (∀k,isL listed k↔k<j)→wpList P ops Q (ops.toList.drop j) a w→wpAny P .any ops Q fuel listed a w
 |0,j,listed,a,w,hj,hf,hs,hl,h=>by
  have hnil:Region.ready .any ops listed=[]:=by
   refine List.eq_nil_iff_forall_not_mem.2 fun i hi=>?_
   obtain⟨h1,h2,_⟩:=z'8 hs hi
   exact h2 ((hl i).2 (by omega))
  refine⟨hnil,?_⟩
  rw[x'G (by simp;omega)]at h
  exact h
 |fuel+1,j,listed,a,w,hj,hf,hs,hl,h=>by
  have hjs:j<ops.size:=by omega
  have only: ∀i,i∈Region.ready .any ops listed→i=j:=by
   intro i hi
   obtain⟨h1,h2,o,ho,hr⟩:=z'8 hs hi
   have hij:j≤i:=by
    rcases z't i j with h'|h'
    ·exact absurd ((hl i).2 h') h2
    ·exact h'
   rcases z'1 hij with h'|h'
   ·exact h'.symm
   ·exfalso
    have he:=hB.tail i h1 (by omega) j h'
    have:=(hl j).1 (z'4 (S:=isL listed) (fun j' e hj' he'=>by
     obtain⟨oj,ed,q1,q2,q3,rfl⟩:=z'P.1 he'
     have:=hB.back j' oj q1 ed q2 q3
     have:=(hl j').1 hj'
     exact(hl ed.on).2 (by omega)) _ i j (fun e he'=>by
     obtain⟨oj,ed,q1,q2,q3,rfl⟩:=z'P.1 he'
     rw[ho]at q1;cases q1
     exact hr ed q2 q3) he)
    omega
  have hready:j∈Region.ready .any ops listed:=by
   refine mem_ready.2 ⟨?_,ops[j],by simp[hjs],fun e he hb=>?_⟩
   ·have hn: ¬isL listed j:=fun h'=>by have:=(hl j).1 h';omega
    cases hq:listed.getD j true with
    |false=>rfl
    |true=>exact absurd ((z'H (by omega)).1 hq) hn
   ·have hlt:=hB.back j ops[j] (by simp[hjs]) e he hb
    have:=(hl e.on).2 hlt
    unfold isL at this
    rw[z'w,this];rfl
  refine⟨fun h0=>by rw[h0]at hready;exact absurd hready z'I,fun i hi=>?_⟩
  obtain rfl:=only i hi
  rw[x'p (by simpa using hjs)]at h
  have ih:=fun a w=>Zb9 hB (Q:=Q) fuel (i+1) (listed.setIfInBounds i true) a w (by omega) (by omega) (by simp[hs]) (fun k=>by rw[y'y (by omega),hl k];omega)
  unfold wpOp
  have ho:ops[i]?=some ops[i]:=by simp[hjs]
  rw[ho]
  simp only
  have hel:ops.toList[i]'(by simpa using hjs)=ops[i]:=by simp
  rw[hel]at h
  unfold wpList at h
  split
  ·rename_i hw
   rw[if_pos hw]at h
   exact h.imp (Oper.wp_mono ih) id
  ·rename_i hw
   rw[if_neg hw]at h
   exact ih _ _ h
theorem Zjj (hB:y'2 ops f) (hs0:SRel x ⟨E,H⟩ a0 ws) {Q:Exit→Act→World→Prop} (hok: ∀j,j<f→ ∃o,ops[j]?=some o∧FOk P ops (y'p ops 0 E res j) H o (res j))
  (hdst: ∀k t,z'v ops k=some t→t<x.n) (hfin: ∀blk listed a w,(∀k,isL listed k↔k<f)→FInv x ops f res H a0 ws blk listed a w→wpList P ops Q (ops.toList.drop f) a w):
  ∀(fuel:Nat) (blk:Nat→List Nat) (listed:Array Bool) (a:Act) (w:World),unl listed ops.size=fuel→FInv x ops f res H a0 ws blk listed a w→wpAny P .any ops Q fuel listed a w:=by
 intro fuel
 induction fuel with
 |zero=>
  intro blk listed a w hu h
  have all: ∀k,k<ops.size→isL listed k:=fun k hk=>w'6 h.lsize hu hk
  have hfs:f=ops.size:=by
   rcases z'1 hB.le with h'|h'
   ·exact h'
   ·have:=h.front f (all f h');omega
  exact Zb9 hB 0 f listed a w (by omega) (z'c _) h.lsize (fun k=>⟨h.front k,fun hk=>all k (by omega)⟩) (hfin blk listed a w (fun k=>⟨h.front k,fun hk=>all k (by omega)⟩) h)
 |succ fuel ih=>
  intro blk listed a w hu h
  by_cases hall: ∀k,k<f→isL listed k
  ·have hl: ∀k,isL listed k↔k<f:=fun k=>⟨h.front k,hall k⟩
   have hcount:f+(fuel+1)=ops.size:=by
    have key: ∀m,m≤ops.size→((List.range m).filter fun k=> !listed.getD k true).length=m-f:=by
     intro m
     induction m with
     |zero=>intro _;simp
     |succ m ihm=>
      intro hm
      rw[z'9,z'G,z'r,ihm (by omega)]
      by_cases hmf:m<f
      ·have:listed.getD m true=true:=(z'H (by rw[h.lsize];omega)).2 ((hl m).2 hmf)
       rw[z'S,this];simp;omega
      ·have:listed.getD m true=false:=by
        cases hq:listed.getD m true with
        |false=>rfl
        |true=>exact absurd ((hl m).1 ((z'H (by rw[h.lsize];omega)).1 hq)) hmf
       rw[z'S,this];simp;omega
    have:=key ops.size (z'c _)
    unfold unl at hu
    have:=hB.le
    omega
   exact Zb9 hB (fuel+1) f listed a w hcount (z'c _) h.lsize hl (hfin blk listed a w hl h)
  ·-- the least one that is not listed
   have hex: ∃k,k<f∧ ¬isL listed k:=by
    refine z'j fun hn=>hall fun k hk=>z'j fun hkl=>hn ⟨k,hk,hkl⟩
   have least: ∀m, ∀k,k≤m→k<f→ ¬isL listed k→ ∃k',k'<f∧ ¬isL listed k'∧ ∀l,l<k'→isL listed l:=by
    intro m
    induction m with
    |zero=>intro k hk hkf hkl;exact⟨k,hkf,hkl,fun l hl=>by omega⟩
    |succ m ihm=>
     intro k hk hkf hkl
     by_cases hp: ∀l,l<k→isL listed l
     ·exact⟨k,hkf,hkl,hp⟩
     ·have: ∃l,l<k∧ ¬isL listed l:=z'j fun hn=>hp fun l hl=>z'j fun hll=>hn ⟨l,hl,hll⟩
      obtain⟨l,h1,h2⟩:=this
      exact ihm l (by omega) (by omega) h2
   obtain⟨k0,hk0f,hk0⟩:=hex
   obtain⟨k,hkf,hkl,hkp⟩:=least k0 k0 (z'c _) hk0f hk0
   have hks:k<ops.size:=z'm hkf hB.le
   have hready:k∈Region.ready .any ops listed:=by
    refine mem_ready.2 ⟨?_,ops[k],by simp[hks],fun e he hb=>?_⟩
    ·cases hq:listed.getD k true with
     |false=>rfl
     |true=>exact absurd ((z'H (by rw[h.lsize];omega)).1 hq) hkl
    ·have hlt:=hB.back k ops[k] (by simp[hks]) e he hb
     have:=hkp e.on hlt
     unfold isL at this
     rw[z'w,this];rfl
   refine⟨fun h0=>by rw[h0]at hready;exact absurd hready z'I,fun i hi=>?_⟩
   have hif:i<f:=by
    rcases z't i f with h'|h'
    ·exact h'
    ·exfalso
     obtain⟨h1,h2,o,ho,hr⟩:=z'8 h.lsize hi
     have he:=hB.tail i h1 h' k (by omega)
     exact hkl (z'4 (S:=isL listed) (fun j' e hj' he'=>by
      obtain⟨oj,ed,q1,q2,q3,rfl⟩:=z'P.1 he'
      exact h.down j' oj q1 hj' ed q2 q3) _ i k (fun e he'=>by
      obtain⟨oj,ed,q1,q2,q3,rfl⟩:=z'P.1 he'
      rw[ho]at q1;cases q1
      exact hr ed q2 q3) he)
   obtain⟨h1,h2,_⟩:=z'8 h.lsize hi
   refine wpOp_mono (fun a' w' ⟨blk',h'⟩=>ih blk' _ a' w' ?_ h') (h.step hB hs0 hdst hi hif (hok i hif))
   have:=v'b h.lsize h1 h2
   omega
end
theorem Zdp (w:World) (H:Heap):Evo w H w.drew H:=⟨rfl,rfl,rfl,z'c _,fun _ _ _=>rfl,fun _ h=> .inl h⟩
theorem SRel.drew {x:Ctx} {s:St} {a:Act} {w:World} (h:SRel x s a w):SRel x s a w.drew where
 env t:=Rel.mono (Zdp w s.heap).keeps _ _ (h.env t)
 inv:={rel:=fun b c hm=>(h.inv.rel b c hm).mono (Zdp w s.heap).keeps rfl,nodup:=h.inv.nodup,apart:=h.inv.apart,old:=h.inv.old}
 evo:=h.evo.trans (Zdp w _)
 defers:=h.defers
 size:=h.size
section
variable {P : Program} {x : Ctx} {ops : Array Oper} {f : Nat} {res : Nat → FRes} {H : Heap} {E : Nat → D} {a0 : Act} {ws : World}
def v'1 (L0:Nat→Prop) (res:Nat→FRes) (blk:Nat→List Nat) (f i:Nat):Nat→Prop:=fun b=>L0 b∨ ∃k n,i≤k∧k<f∧res k= .new n∧b∈blk k
theorem Zc2 (hs0:SRel x ⟨E,H⟩ a0 ws) {blk:Nat→List Nat} {listed:Array Bool} {a:Act} {w:World} (h:FInv x ops f res H a0 ws blk listed a w) (hl: ∀k,isL listed k↔k<f)
  (hdst: ∀j n,j<f→res j= .new n→ ∃t,z'v ops j=some t) {K:(Nat→D)→Heap→Prop}:
  ∀(m i:Nat) (E1:Nat→D) (H1:Heap),i+m=f→Za4 (x'E ops res i m) E1 H1 K→
   (∀t,Rel w (live H (L1 x.L0 res blk listed)) (E1 t) (a.tmps.getD t undef))→HInv w (v'1 x.L0 res blk f i) H1→(∀b,live H1 (v'1 x.L0 res blk f i) b↔live H (L1 x.L0 res blk listed) b)→Evo ws H w H1→
   ∃E2 H2,K E2 H2∧SRel x ⟨E2,H2⟩ a w
 |0,i,E1,H1,hi,hk,henv,hinv,hsame,hevo=>by
  refine⟨E1,H1,hk,?_⟩
  have hL:v'1 x.L0 res blk f i=x.L0:=by
   funext b
   refine propext ⟨?_,.inl⟩
   rintro(h1|⟨k,n,h1,h2,_⟩)
   ·exact h1
   ·omega
  rw[hL]at hinv hsame
  refine{env:=fun t=>Rel.mono (Keeps.less fun b _ hb=>(hsame b).1 hb) _ _ (henv t),inv:=hinv,evo:=?_,defers:=h.defers,size:=h.size}
  exact hs0.evo.trans hevo
 |m+1,i,E1,H1,hi,hk,henv,hinv,hsame,hevo=>by
  have hif:i<f:=by omega
  have skip:v'o ops res i=[]→(∀n,res i≠ .new n)→ ∃E2 H2,K E2 H2∧SRel x ⟨E2,H2⟩ a w:=by
   intro h0 hno
   have hL:v'1 x.L0 res blk f i=v'1 x.L0 res blk f (i+1):=by
    funext b
    refine propext ⟨?_,?_⟩
    ·rintro(h1|⟨k,n,h1,h2,h3,h4⟩)
     ·exact .inl h1
     ·refine .inr ⟨k,n,?_,h2,h3,h4⟩
      rcases z'1 h1 with h'|h'
      ·subst h';exact absurd h3 (hno n)
      ·exact h'
    ·rintro(h1|⟨k,n,h1,h2,h3,h4⟩)
     ·exact .inl h1
     ·exact .inr ⟨k,n,by omega,h2,h3,h4⟩
   rw[x'E,h0,z'L]at hk
   rw[hL]at hinv hsame
   exact Zc2 hs0 h hl hdst m (i+1) E1 H1 (by omega) hk henv hinv hsame hevo
  cases hr:res i with
  |det d=>exact skip (by rw[v'o,hr,x'h]) (fun n=>by rw[hr];exact fun h=>nomatch h)
  |skip=>exact skip (by rw[v'o,hr,w'S]) (fun n=>by rw[hr];exact fun h=>nomatch h)
  |new n=>
   obtain⟨t,ht⟩:=hdst i n hif hr
   have hil:isL listed i:=(hl i).2 hif
   have hsl:=h.slots i t hil ht
   rw[hr]at hsl
   obtain⟨d,Hk,hsay,hbk,hnd,hv,hrel⟩:=hsl
   have hin: ∀b,b∈Hk.blocks→v'1 x.L0 res blk f i b:=fun b hb=> .inr ⟨i,n,z'c _,hif,hr,hbk▸hb⟩
   have hnot: ∀b,b∈Hk.blocks→b∉H1.blocks:=fun b hb hm=>hinv.apart _ hm (hin b hb)
   rw[x'E,v'o,hr,ht,ZaB,y'w,z'L]at hk
   have hk':=Zja hk hsay hnot
   have hb:=h.blks i n hil hr
   have hmem: ∀b,b∈(Hk++H1).blocks↔b∈Hk.blocks∨b∈H1.blocks:=fun b=>by simp[Heap.blocks]
   have hsame': ∀b,live (Hk++H1) (v'1 x.L0 res blk f (i+1)) b↔live H (L1 x.L0 res blk listed) b:=by
    intro b
    rw[←hsame b]
    simp only[live,hmem]
    constructor
    ·rintro((h1|⟨k,n',h1,h2,h3,h4⟩)|h1|h1)
     ·exact .inl (.inl h1)
     ·exact .inl (.inr ⟨k,n',by omega,h2,h3,h4⟩)
     ·exact .inl (hin b h1)
     ·exact .inr h1
    ·rintro((h1|⟨k,n',h1,h2,h3,h4⟩)|h1)
     ·exact .inl (.inl h1)
     ·rcases z'1 h1 with h'|h'
      ·subst h';exact .inr (.inl (by rw[hbk];exact h4))
      ·exact .inl (.inr ⟨k,n',h',h2,h3,h4⟩)
     ·exact .inr (.inr h1)
   have kk:Keeps w (live H (L1 x.L0 res blk listed)) w (live (Hk++H1) (v'1 x.L0 res blk f (i+1))):=Keeps.less fun b _ hb=>(hsame' b).1 hb
   have kk1:Keeps w (live H1 (v'1 x.L0 res blk f i)) w (live (Hk++H1) (v'1 x.L0 res blk f (i+1))):=Keeps.less fun b _ hb=>(hsame b).2 ((hsame' b).1 hb)
   refine Zc2 hs0 h hl hdst m (i+1) _ _ (by omega) hk' ?_ ?_ hsame' ?_
   ·intro t'
    simp only[upd]
    by_cases e:t=t'
    ·subst e;simp only[beq_self_eq_true,cond_true];exact hv
    ·have:(t == t')=false:=by simpa using e
     rw[this,cond_false];exact henv t'
   ·refine{rel:=fun b c hm=>?_,nodup:=?_,apart:=fun b hb' hL=>?_,old:=fun b hL=>?_}
    ·rcases y'j.1 hm with hm|hm
     ·exact(hrel b c hm).mono kk rfl
     ·exact(hinv.rel b c hm).mono kk1 rfl
    ·simp only[Heap.blocks,z'y]
     exact z'6.2 ⟨hnd,hinv.nodup,fun a ha b hb' hab=>hnot a ha (hab▸hb')⟩
    ·rcases(hmem b).1 hb' with hb'|hb'
     ·rcases hL with hL|⟨k,n',h1,h2,h3,h4⟩
      ·have:=hs0.inv.old _ hL
       have:=(hb b (hbk▸hb')).1
       omega
      ·have:=h.inj k i n' n ((hl k).2 h2) hil h3 hr b h4 (hbk▸hb');omega
     ·refine hinv.apart b hb' ?_
      rcases hL with hL|⟨k,n',h1,h2,h3,h4⟩
      ·exact .inl hL
      ·exact .inr ⟨k,n',by omega,h2,h3,h4⟩
    ·refine hinv.old b ?_
     rcases hL with hL|⟨k,n',h1,h2,h3,h4⟩
     ·exact .inl hL
     ·exact .inr ⟨k,n',by omega,h2,h3,h4⟩
   ·refine⟨hevo.os,hevo.tape,hevo.output,hevo.size,hevo.block,fun b hb'=>?_⟩
    rcases(hmem b).1 hb' with hb'|hb'
    ·exact .inr (hb b (hbk▸hb')).1
    ·exact hevo.fresh b hb'
end
theorem v'w {l:List Oper} {n:Nat} (h:l.all (y'B n)=true): ∀k t,z'v l.toArray k=some t→t<n:=by
 intro k t hk
 unfold z'v at hk
 rw[z'h]at h
 cases hq:l.toArray[k]? with
 |none=>rw[hq]at hk;cases hk
 |some o=>
  rw[hq]at hk
  exact w'E (h o (z'F (by simpa using hq))) t hk
def VCg {P:Program} (T:Tab P) (ops:Array Oper) (H:Heap) (K:(Nat→D)→List (Tmp×NewI)→Prop):Nat→List Oper→(Nat→D)→List (Tmp×NewI)→Prop
 |0,_,E,news=>K E news
 |_+1,[],_,_=>False
 |m+1,o::l,E,news=> ∃r,FOk P ops E H o r∧VCg T ops H K m l (updO E o.dst r.d) (news++ZaB r o.dst)
theorem VCg.vcf {P:Program} {T:Tab P} {ops:Array Oper} {H:Heap} {K:(Nat→D)→List (Tmp×NewI)→Prop}: ∀(m i:Nat) (l:List Oper) (E:Nat→D) (news:List (Tmp×NewI)),
  l=ops.toList.drop i→VCg T ops H K m l E news→VCf T ops H K m i E news
 |0,i,l,E,news,_,h=>h
 |m+1,i,[],E,news,_,h=>h.elim
 |m+1,i,o::l,E,news,hl,h=>by
  obtain⟨r,h1,h2⟩:=h
  have hi:ops[i]?=some o:=by
   have:(ops.toList.drop i)[0]?=some o:=by rw[←hl];rfl
   rw[z'7]at this
   simpa using this
  refine⟨o,r,hi,h1,VCg.vcf m (i+1) l _ _ ?_ h2⟩
  have:ops.toList.drop (i+1)=(ops.toList.drop i).drop 1:=by rw[y'5]
  rw[this, ←hl];rfl
section
variable {P : Program} (T : Tab P) {ops : Array Oper} {H : Heap} {K : (Nat → D) → List (Tmp × NewI) → Prop} {m : Nat} {E : Nat → D} {news : List (Tmp × NewI)} {o : Oper} {l : List Oper}
theorem VCg.nil (h:K E news):VCg T ops H K 0 l E news:=h
theorem VCg.step {d:D} {t:Tmp} (hg:o.guard=none) (ht:o.dst=some t) (h1:opC T o (evD E) H (fun d' H'=>d'=d∧H'=H)) (h2:VCg T ops H K m l (upd E t d) news):
  VCg T ops H K (m+1) (o::l) E news:=⟨.det d,⟨.inl hg,w'T T h1⟩,by rw[x'h,z'x,ht];exact h2⟩
theorem VCg.alloc {t:TypeId} {s:Tmp} (hg:o.guard=none) (hop:o.op= .alloc t) (hd:o.dst=some s) (hk:(T.get t).known=true) (hz:((T.get t).zero.map constD).all oneD=true)
  (h2:VCg T ops H K m l (upd E s .any) (news++[(s,.cells t ((T.get t).zero.map constD))])):VCg T ops H K (m+1) (o::l) E news:=
 ⟨.new (.cells t ((T.get t).zero.map constD)),⟨.inl hg,⟨s,hd⟩,Zfg T hop hk hz⟩,by rw[hd];exact h2⟩
theorem VCg.own {Φ:D→Heap→Prop} {s:Tmp} (hg:o.guard=none) (hd:o.dst=some s) (h1:Op1 P o (evD E) H (fun d H'=> ∃Hk,Φ d Hk∧H'=Hk++H))
  (h2:VCg T ops H K m l (upd E s .any) (news++[(s,.own Φ)])):VCg T ops H K (m+1) (o::l) E news:=
 ⟨.new (.own Φ),⟨.inl hg,⟨s,hd⟩,let ⟨_,q1,q2⟩:=h1;q1.mono q2⟩,by rw[hd];exact h2⟩
theorem VCg.gundef {j g:Nat} {want:Bool} {s:Tmp} (hg:o.guard=some (j,want)) (hj:(ops[j]?).bind (·.dst)=some g) (ht:E g= .is undef) (hs:o.dst=some s)
  (h:VCg T ops H K m l (upd E s (.is undef)) news):VCg T ops H K (m+1) (o::l) E news:=
 ⟨.skip,⟨j,want,g,hg,hj,.inr ht⟩,by rw[w'S,z'x,hs];exact h⟩
theorem VCg.gstep {j g:Nat} {want t:Bool} {s:Tmp} (hg:o.guard=some (j,want)) (hj:(ops[j]?).bind (·.dst)=some g) (ht:E g= .is (.bool t)) (hs:o.dst=some s)
  (h:x'y t fun t'=>bif sameB t' want then(∃d,opC T o (evD (upd E g (.is (.bool t')))) H (fun d' H'=>d'=d∧H'=H)∧VCg T ops H K m l (upd (upd E g (.is (.bool t'))) s d) news)
   else VCg T ops H K m l (upd (upd E g (.is (.bool t'))) s (.is undef)) news):VCg T ops H K (m+1) (o::l) E news:=by
 have h1:=x'N h
 simp only[x'A ht]at h1
 have e: ∀a b:Bool,sameB a b=(a == b):=by decide
 rw[e]at h1
 by_cases hw:t=want
 ·subst hw
  rw[beq_self_eq_true,cond_true]at h1
  obtain⟨d,h2,h3⟩:=h1
  exact⟨.det d,⟨.inr ⟨j,t,g,hg,hj,ht⟩,w'T T h2⟩,by rw[x'h,z'x,hs];exact h3⟩
 ·have hb:(t == want)=false:=by simpa using hw
  rw[hb,cond_false]at h1
  have:t= !want:=by cases t<;>cases want<;>first|rfl|exact absurd rfl hw
  exact⟨.skip,⟨j,want,g,hg,hj,.inl (this▸ht)⟩,by rw[w'S,z'x,hs];exact h1⟩
end
theorem VC.draw {P : Program} (T : Tab P) {n id : Nat} {l : List Oper} {E : Nat → D} {H : Heap} {Q : Exit → St → Prop} (f : Nat) (hB : x'I l.toArray f = true) (hm : P.follows .mixedOrders = true) (hd : l.all (y'B n) = true)
    (h : VCg T l.toArray H (fun E' news => Za4 news E' H fun E'' H'' => VCo P n l.toArray (l.drop f) ⟨E'', H''⟩ Q) f l E []) : VC P n (.region id l.toArray true) ⟨E, H⟩ Q := by
  intro x a0 w hn hs
  have h := VCg.vcf f 0 l E [] rfl h
  have hB := x'f hB
  have hs1 := hs.drew
  refine wp_region_any hm ?_
  obtain ⟨res, hok, hK⟩ := VCf.extract f 0 E [] h
  have hok' : ∀ j, j < f → ∃ o, l.toArray[j]? = some o ∧ FOk P l.toArray (y'p l.toArray 0 E res j) H o (res j) := fun j hj => by
    have := hok j hj
    rwa [y'd] at this
  have hdst : ∀ k t, z'v l.toArray k = some t → t < x.n := fun k t hk => hn ▸ v'w hd k t hk
  have hnd : ∀ j n, j < f → res j = .new n → ∃ t, z'v l.toArray j = some t := by
    intro j n hj hr
    obtain ⟨o, ho, hf⟩ := hok' j hj
    rw [hr] at hf
    obtain ⟨_, ⟨t, ht⟩, _⟩ := hf
    exact ⟨t, by simp only [z'v, ho, Option.bind_some, ht]⟩
  have hnone : ∀ k, ¬ isL (Array.replicate l.toArray.size false) k := by
    intro k hk
    unfold isL at hk
    rw [y'Y] at hk
    split at hk <;> cases hk
  have hL0 : L1 x.L0 res (fun _ => []) (Array.replicate l.toArray.size false) = x.L0 := by
    funext b
    refine propext ⟨?_, .inl⟩
    rintro (h1 | ⟨k, n, h1, _⟩)
    · exact h1
    · exact absurd h1 (hnone k)
  have hunl : unl (Array.replicate l.toArray.size false) l.toArray.size = l.toArray.size := by
    unfold unl
    rw [List.filter_eq_self.2]
    · simp
    · intro k hk
      have := z'J.1 hk
      simpa [Array.getD] using this
  refine Zjj (x := x) (res := res) (E := E) (H := H) (a0 := a0) (ws := w.drew) hB hs1 hok' hdst ?_ _ (fun _ => []) _ a0 w.drew hunl ?_
  · intro blk listed a w' hl hF
    have h0 : [] ++ x'E l.toArray res 0 f = x'E l.toArray res 0 f := z'L _
    rw [h0] at hK
    have hsameL : v'1 x.L0 res blk f 0 = L1 x.L0 res blk listed := by
      funext b
      refine propext ⟨?_, ?_⟩
      · rintro (h1 | ⟨k, n, h1, h2, h3, h4⟩)
        · exact .inl h1
        · exact .inr ⟨k, n, (hl k).2 h2, h3, h4⟩
      · rintro (h1 | ⟨k, n, h1, h3, h4⟩)
        · exact .inl h1
        · exact .inr ⟨k, n, z'Q _, (hl k).1 h1, h3, h4⟩
    have henv : ∀ t, Rel w' (live H (L1 x.L0 res blk listed)) (y'p l.toArray 0 E res f t) (a.tmps.getD t undef) := by
      intro t
      by_cases hex : ∃ k, k < f ∧ z'v l.toArray k = some t
      · obtain ⟨k, hkf, hkt⟩ := hex
        rw [ZaP f hkf hkt (fun j hj hne hd' => hB.uniq k j hkf hj hne (by rw [hkt]; simp) (by rw [hd', hkt]))]
        have hsl := hF.slots k t ((hl k).2 hkf) hkt
        cases hr : res k with
        | det d => rw [hr] at hsl; exact hsl
        | skip => rw [hr] at hsl; exact hsl
        | new n => trivial
      · rw [v'Q f (fun k hk hd' => hex ⟨k, hk, hd'⟩), hF.rest t (fun k hk hd' => hex ⟨k, (hl k).1 hk, hd'⟩)]
        exact Rel.mono hF.keeps _ _ (hs1.env t)
    obtain ⟨E2, H2, hV, hS⟩ := Zc2 hs1 hF hl hnd f 0 _ H (by omega) hK henv (by rw [hsameL]; exact hF.inv) (fun b => by rw [hsameL]) hF.evo
    exact hV x a w' hn hS
  · refine { lsize := by simp, down := fun k o _ hk => absurd hk (hnone k), front := fun k hk => absurd hk (hnone k), slots := fun k t hk => absurd hk (hnone k), blks := fun k n hk => absurd hk (hnone k),
             inj := fun k l' n n' hk => absurd hk (hnone k), rest := fun t _ => rfl, inv := by rw [hL0]; exact hs1.inv, evo := Evo.refl _ _, defers := hs1.defers, size := hs1.size }
def Zm0:Nat→List (Int×Value)→List MapEntry
 |_,[]=>[]
 |i,(k,v)::r=>{key:= .int .i64 k,val:=v,born:=i}::Zm0 (i+1) r
def ZeU (l:List (Int×Value)):Obj:= .map (Zm0 0 l).toArray l.length
def isV:D→Option Value
 | .is v=>some v
 |_=>none
def Zbg:D→Option Value
 | .is v=>some v
 | .agg l=>(l.mapM isV).map fun l=>Value.agg l.toArray
 |_=>none
theorem ZhL: ∀(l:List D) (vs:List Value),(l.mapM isV)=some vs→l=vs.map D.is
 |[],vs,h=>by
  simp at h;subst h;rfl
 |d::l,vs,h=>by
  rw[x'n]at h
  cases d<;>simp only[Option.bind_eq_bind,isV]at h
  case is v=>
   simp only[Option.bind_some]at h
   cases hm:(l.mapM isV)with
   |none=>rw[hm]at h;cases h
   |some us=>
    rw[hm]at h
    cases h
    rw[z'g,ZhL l us hm]
  all_goals(simp at h)
theorem Zhd {w:World} {L:Nat→Prop} {d:D} {v u:Value} (h:Zbg d=some v) (r:Rel w L d u):u=v:=by
 cases d<;>simp only[Zbg]at h
 case is x=>cases h;exact r
 case agg l=>
  obtain⟨_,cs,rfl,hr⟩:=r
  cases hm:(l.mapM isV)with
  |none=>rw[hm]at h;cases h
  |some us=>
   rw[hm]at h
   cases h
   rw[ZhL l us hm]at hr
   have:=RelL.is us cs.toList hr
   rw[←this]
 all_goals cases h
def ZcJ:Value→D
 | .agg cs=> .agg (cs.toList.map .is)
 |v=> .is v
theorem Zao (w:World) (L:Nat→Prop): ∀l:List Value,RelL w L (l.map D.is) l
 |[]=>rfl
 |v::l=>⟨v,l,rfl,rfl,Zao w L l⟩
theorem Zg7 (w:World) (L:Nat→Prop) (v:Value) (h: ∀cs,v= .agg cs→cs.toList.all Value.oneCell'=true):Rel w L (ZcJ v) v:=by
 unfold ZcJ
 split
 ·rename_i cs
  refine⟨?_,cs,rfl,Zao w L _⟩
  have:=h cs rfl
  rw[List.all_map]
  exact this
 ·rfl
theorem ZjW {P:Program} {o:Oper} {E:Operand→D} {H:Heap} {K:D→Heap→Prop} {t kt et:TypeId} {r:Option Operand} (ho:o.op= .makeMap t r) (hu:P.underlying t=some (.map kt et))
  (hr: ∀x,r=some x→ ∃k n,E x= .is (.int k n)) (hk: ∀b,b∉H.blocks→K (.is (.map (some b))) ((b,.obj (ZeU []))::H)):Op1 P o E H K:=by
 refine⟨fun d' H'=> ∃b,b∉H.blocks∧d'= .is (.map (some b))∧H'=(b,.obj (ZeU []))::H,?_,fun d' H' ⟨b,h1,h2,h3⟩=>h2▸h3▸hk b h1⟩
 intro w L0 ε hi hx
 have hrun:(execOp ε o).run P w= .ok (.value (.map (some w.heap.size))) (w.alloc (ZeU [])):=by
  simp only[execOp,ho]
  refine(z'a (a:= .map (some w.heap.size)) (w':=w.alloc (ZeU [])) ?_).trans rfl
  cases r with
  |none=>rfl
  |some x=>
   obtain⟨k,n,hx0⟩:=hr x rfl
   have r1:=hx x (by simp[ho,Op.operands])
   rw[hx0]at r1
   have r1':ε x= .int k n:=r1
   simp only[y'a,Instr.makeMap,r1']
   rw[z'a (run_underlying hu w)]
   rfl
 rw[hrun]
 have hevo:Evo w H (w.alloc (ZeU [])) ((w.heap.size,.obj (ZeU []))::H):=ZaQ w H _ _
 refine⟨_,_,⟨w.heap.size,fun hm=>by have:=hi.lt hm;omega,rfl,rfl⟩,rfl,?_,hevo⟩
 exact HInv.new hi hevo.size (fun k hk=>x'u w _ k hk) (z'c _) (heap_alloc_new w _)
theorem Op1.perm {P:Program} {o:Oper} {E:Operand→D} {H H':Heap} {K:D→Heap→Prop} (hp:H.Perm H') (h:Op1 P o E H' K):Op1 P o E H K:=by
 obtain⟨Φ,hop,hk⟩:=h
 refine⟨Φ,?_,hk⟩
 intro w L0 ε hi hx
 exact(hop w L0 ε (hi.perm hp) (fun y hy=>by rw[v'a hp];exact hx y hy)).mono fun v w' ⟨d,G,h1,h2,h3,h4⟩=>⟨d,G,h1,h2,h3,h4.perm hp.symm (.refl _)⟩
theorem ZjZ {w:World} {L:Nat→Prop} {l:List D} {vs cs:List Value} (h:RelL w L l vs):RelL w L (l++cs.map D.is) (vs++cs):=RelL.append _ _ _ _ h (Zao _ _ _)
theorem Op1.callG {P:Program} {o:Oper} {E:Operand→D} {f:FuncId} {xf:Operand} {as:Array Operand} {tys:Array TypeId} {caps:Array Value} {args:List D} {H Hp Hr:Heap} {fr:Bool} {Φ:D→Heap→Prop} {K:D→Heap→Prop}
  (ho:o.op= .call ⟨.value xf,as,tys⟩) (hE:E xf= .is (.func (.func f) #[] caps)) (ha:as.toList.map E++caps.toList.map D.is=args) (h:Fun P f args Hp fr Φ)
  (hp:H.Perm (Hp++Hr)) (hk: ∀d H',Φ d H'→K d (H'++Hr)):Op1 P o E H K:=by
 refine Op1.perm hp ?_
 subst ha
 refine⟨fun d H'=> ∃Hp',Φ d Hp'∧H'=Hp'++Hr,?_,fun d H' ⟨Hp',h1,h2⟩=>h2▸hk d Hp' h1⟩
 intro w L0 ε hi hx
 obtain⟨⟨fn,hf,hbody,hname⟩,h⟩:=h
 have hrun:(execOp ε o).run P w= .ok (.enter f (as.toList.map ε++caps.toList).toArray) w:=by
  have hff:ε xf= .func (.func f) #[] caps:=by
   have:=hx xf (by simp[ho,Op.operands,Call.operands])
   rw[hE]at this;exact this
  have:=w'w hf hbody hname (as.map ε++caps) w
  have e:(as.toList.map ε++caps.toList).toArray=as.map ε++caps:=by
   rw[←Array.toList_map, ←Array.toList_append]
  rw[e]
  simp[execOp,ho,resolve,Deferred.ofValue,hff,invoke,go_sem]
  exact this
 rw[hrun]
 have hmem: ∀b,b∈(Hp++Hr).blocks↔b∈Hp.blocks∨b∈Hr.blocks:=fun b=>by simp[Heap.blocks]
 let L1:Nat→Prop:=fun b=>L0 b∨b∈Hr.blocks
 have hlt: ∀b,b∈(Hp++Hr).blocks→b<w.heap.size:=fun b hb=>hi.lt hb
 have hnd:Hp.blocks.Nodup∧Hr.blocks.Nodup∧ ∀b,b∈Hp.blocks→b∉Hr.blocks:=by
  have:=hi.nodup
  simp only[Heap.blocks,z'y]at this
  obtain⟨h1,h2,h3⟩:=z'6.1 this
  exact⟨h1,h2,fun b hp hr=>h3 b hp b hr rfl⟩
 have same: ∀b,live Hp L1 b↔live (Hp++Hr) L0 b:=fun b=>by
  simp only[live,L1,hmem]
  constructor
  ·rintro((h|h)|h)
   ·exact .inl h
   ·exact .inr (.inr h)
   ·exact .inr (.inl h)
  ·rintro(h|h|h)
   ·exact .inl (.inl h)
   ·exact .inr h
   ·exact .inl (.inr h)
 have hk1:Keeps w (live (Hp++Hr) L0) w (live Hp L1):=Keeps.less fun b _ hl=>(same b).1 hl
 have hi1:HInv w L1 Hp:=
  {rel:=fun b c hm=>(hi.rel b c (z'5 _ hm)).mono hk1 rfl
   nodup:=hnd.1
   apart:=fun b hb hl=>by
    rcases hl with hl|hl
    ·exact hi.apart b ((hmem b).2 (.inl hb)) hl
    ·exact hnd.2.2 b hb hl
   old:=fun b hl=>by
    rcases hl with hl|hl
    ·exact hi.old b hl
    ·exact hlt b ((hmem b).2 (.inr hl))}
 have hargs:RelL w (live Hp L1) (as.toList.map E) (as.toList.map ε):=by
  have: ∀l:List Operand,(∀x∈l,x∈as.toList)→RelL w (live Hp L1) (l.map E) (l.map ε):=by
   intro l
   induction l with
   |nil=>intro _;rfl
   |cons x l ih=>
    intro hl
    refine⟨ε x,l.map ε,rfl,Rel.mono hk1 _ _ (hx x ?_),ih fun y hy=>hl y (z'n _ hy)⟩
    have:=hl x (z'k ..)
    simp only[ho,Op.operands,Call.operands]
    exact Array.mem_append.2 (.inr (y'A.1 this))
  exact this _ fun _ h=>h
 refine(h w L1 _ hi1 (ZjZ hargs)).mono ?_
 rintro e w' ⟨v,rfl,d,Hp',hΦ,hrel,hi',he⟩
 have hmem': ∀b,b∈(Hp'++Hr).blocks↔b∈Hp'.blocks∨b∈Hr.blocks:=fun b=>by simp[Heap.blocks]
 have hevo:Evo w (Hp++Hr) w' (Hp'++Hr):=
  ⟨he.os,he.tape,he.output,he.size,fun b hb hn=>he.block b hb (fun h=>hn ((hmem b).2 (.inl h))),fun b hb=>by
   rcases(hmem' b).1 hb with h|h
   ·exact(he.fresh b h).imp (fun h=>(hmem b).2 (.inl h)) id
   ·exact .inl ((hmem b).2 (.inr h))⟩
 refine⟨v,rfl,d,Hp'++Hr,⟨Hp',hΦ,rfl⟩,?_,?_,hevo⟩
 ·refine Rel.mono (Keeps.less fun b _ hl=>?_) _ _ hrel
  rcases hl with hl|hl
  ·exact .inl (.inl (.inl hl))
  ·rcases(hmem' b).1 hl with hl|hl
   ·exact .inr hl
   ·exact .inl (.inl (.inr hl))
 ·exact
   {rel:=fun b c hm=>by
     rcases y'j.1 hm with hm|hm
     ·refine(hi'.rel b c hm).mono (Keeps.less fun b _ hl=>?_) rfl
      rcases hl with hl|hl
      ·exact .inl (.inl hl)
      ·rcases(hmem' b).1 hl with hl|hl
       ·exact .inr hl
       ·exact .inl (.inr hl)
     ·have hbr:b∈Hr.blocks:=z'o.2 ⟨(b,c),hm,rfl⟩
      exact(hi.rel b c (y's _ hm)).mono hevo.keeps (he.block b (hlt b ((hmem b).2 (.inr hbr))) (fun h=>hnd.2.2 b h hbr))
    nodup:=by
     simp only[Heap.blocks,z'y]
     refine z'6.2 ⟨hi'.nodup,hnd.2.1,fun a ha b hb hab=>?_⟩
     subst hab
     rcases he.fresh a ha with h|h
     ·exact hnd.2.2 a h hb
     ·have:=hlt a ((hmem a).2 (.inr hb));omega
    apart:=fun b hb hl=>by
     rcases(hmem' b).1 hb with h|h
     ·exact hi'.apart b h (.inl hl)
     ·exact hi.apart b ((hmem b).2 (.inr h)) hl
    old:=fun b hl=>z'm (hi.old b hl) he.size}
theorem ZkX {P:Program} {o:Oper} {E:Operand→D} {H:Heap} {K:D→Heap→Prop} {fn:Fn} {cs:List Operand} {us:List Value} (ho:o.op= .makeFunc fn #[] cs.toArray) (hc:cs.map E=us.map D.is)
  (hk:K (.is (.func fn #[] us.toArray)) H):Op1 P o E H K:=by
 refine Op1.value (d:= .is (.func fn #[] us.toArray)) (fun w L0 ε hi hx=>⟨.func fn #[] us.toArray,?_,rfl⟩) hk
 have he:cs.map ε=us:=by
  have key: ∀(cs:List Operand) (us:List Value),cs.map E=us.map D.is→(∀x∈cs,Rel w (live H L0) (E x) (ε x))→cs.map ε=us:=by
   intro cs
   induction cs with
   |nil=>intro us h _;cases us with|nil=>rfl|cons u us=>simp at h
   |cons c cs ih=>
    intro us h hr
    cases us with
    |nil=>simp at h
    |cons u us=>
     simp only[z'g,x'D]at h
     have h1:=hr c (z'k ..)
     rw[h.1]at h1
     rw[z'g,ih us h.2 fun x hm=>hr x (z'n _ hm)]
     rw[show ε c=u from h1]
  exact key cs us hc fun x hm=>hx x (by simp[ho,Op.operands,hm])
 simp only[execOp,ho,Instr.makeFunc]
 have e2:Array.map ε cs.toArray=us.toArray:=by rw[←he,List.map_toArray]
 have e3:Array.map ε #[]= #[]:=by simp
 rw[e2,e3]
 rfl
theorem Zb3 {P:Program} (T:Tab P) {t:TypeId} {n esz:Nat} {ea:Bool} (h:kdT (T.get t)= .array n esz ea):
  ∃e,P.underlying t=some (.array n e)∧x'b P e=true∧w'k P e=esz:=by
 unfold kdT at h
 cases hkn:(T.get t).known with
 |false=>rw[hkn]at h;cases h
 |true=>
  rw[hkn]at h
  obtain⟨d,i,z,h1,h2,h3,h4,_⟩:=T.facts hkn
  simp only[h4]at h
  cases d with
  |array n' e'=>
   simp only[y'0]at h
   cases hq:x'b P e' with
   |false=>simp[hq]at h
   |true=>
    simp only[hq,Kd.array.injEq]at h
    obtain⟨rfl,rfl,rfl⟩:=h
    exact⟨e',h1,hq,rfl⟩
  |slice e=>simp only[y'0]at h;cases hq:x'b P e<;>simp[hq]at h
  |struct fs=>simp only[y'0]at h;split at h<;>cases h
  |_=>simp[y'0]at h
theorem ZkV {P:Program} (T:Tab P) {o:Oper} {E:Operand→D} {H:Heap} {K:D→Heap→Prop} {t:TypeId} {x i:Operand} {n esz:Nat} {ea:Bool} {b off:Nat} {ik:IntKind} {m:Int} (ho:o.op= .indexAddr t x i)
  (hk0:kdT (T.get t)= .array n esz ea) (hx0:E x= .is (.pointer (some ⟨b,off,none⟩))) (hi0:E i= .is (.int ik m)) (hm:0≤m∧m<n) (hk:K (.is (.pointer (some ⟨b,off+m.toNat*esz,none⟩))) H):Op1 P o E H K:=by
 obtain⟨e,hu,hkn,hsz⟩:=Zb3 T hk0
 obtain⟨d,inf,z,h1,h2,h3,h4,_⟩:=y'g hkn
 rw[hsz]at h4
 refine Op1.value (d:= .is (.pointer (some ⟨b,off+m.toNat*esz,none⟩))) (fun w L0 ε hi hx=>⟨_,?_,rfl⟩) hk
 have r1:=hx x (by simp[ho,Op.operands])
 have r2:=hx i (by simp[ho,Op.operands])
 rw[hx0]at r1;rw[hi0]at r2
 have r1':ε x= .pointer (some ⟨b,off,none⟩):=r1
 have r2':ε i= .int ik m:=r2
 simp only[execOp,ho,r1',r2',Instr.indexAt]
 refine(z'a (a:= .pointer (some ⟨b,off+m.toNat*esz,none⟩)) (w':=w) ?_).trans rfl
 refine(z'a (a:=(ik,m)) (w':=w) rfl).trans ?_
 simp only
 rw[z'a (run_underlying hu w)]
 simp only
 refine(z'a (a:=(some (⟨b,off,none⟩:Addr),n,e)) (w':=w) rfl).trans ?_
 simp only
 rw[z'a (run_underlying hu w)]
 simp only
 rw[if_pos hm,z'a (x'X h2 w),h4,w'm]
 rfl
theorem ZkU {P:Program} (T:Tab P) {o:Oper} {E:Operand→D} {H:Heap} {K:D→Heap→Prop} {t:TypeId} {ps:List (Nat×Operand)} {n esz:Nat} {ea:Bool} {l:List D} (ho:o.op= .build t ps.toArray)
  (hk0:kdT (T.get t)= .array n esz ea) (hl:v'I (fun i=>some (i*esz,esz)) ((T.get t).zero.map constD) (ps.map fun p=>(p.1,E p.2))=some l) (hone:l.all oneD=true) (hk:K (.agg l) H):Op1 P o E H K:=by
 obtain⟨e,hu,hkn,hsz⟩:=Zb3 T hk0
 obtain⟨d,inf,z,h1,h2,h3,h4,_⟩:=y'g hkn
 rw[hsz]at h4
 have hkt:(T.get t).known=true:=by
  unfold kdT at hk0
  cases h:(T.get t).known with
  |true=>rfl
  |false=>rw[h]at hk0;cases hk0
 obtain⟨d',inf',z',hu',hinf',hz',_,_,hsz',hzl',_⟩:=T.facts hkt
 refine Op1.value (d:= .agg l) (fun w L0 ε hi hx=>?_) hk
 have hmem: ∀i x,(i,x)∈ps→Rel w (live H L0) (E x) (ε x):=fun i x hm=>hx x (by
  simp only[ho,Op.operands,List.mem_toArray,z'o]
  exact⟨(i,x),hm,rfl⟩)
 obtain⟨a',q1,q2,_⟩:=ZaR (ε:=ε) ps _ z'.cells l hmem hl (by rw[hzl'];exact w'D _ _ _)
 refine⟨.agg a',?_,hone,_,rfl,q2⟩
 simp only[execOp,ho,Instr.build]
 refine(z'a (a:= .agg a') (w':=w) ?_).trans rfl
 refine(z'a (a:=z') (w':=w) (by unfold zeroValue;rw[z'a (w'x hinf' w),hz'];rfl)).trans ?_
 rw[z'a (run_underlying hu w)]
 simp only
 rw[z'a (x'X h2 w),h4]
 simp only[List.map_toArray,q1]
 rfl
def VCd (P:Program) (n:Nat) (ops:Array Oper) (j:Nat) (s:St) (Q:Exit→St→Prop):Prop:=
 ∀(x:Ctx) (a:Act) (w:World) (listed:Array Bool),x.n=n→SRel x s a w→listed.size=ops.size→(∀k,isL listed k↔k<j)→
  wpAny P .any ops (fun e a' w'=> ∃s',Q e s'∧SRel x s' a' w') (ops.size-j) listed a w
theorem VC.drawS {P:Program} {n id:Nat} {l:List Oper} {s:St} {Q:Exit→St→Prop} (hm:P.follows .mixedOrders=true) (h:VCd P n l.toArray 0 s Q):VC P n (.region id l.toArray true) s Q:=by
 intro x a0 w hn hs
 refine wp_region_any hm ?_
 have:=h x a0 w.drew (Array.replicate l.toArray.size false) hn hs.drew (by simp) (fun k=>?_)
 ·simpa using this
 ·constructor
  ·intro hk
   unfold isL at hk
   rw[y'Y]at hk
   split at hk<;>cases hk
  ·intro hk;omega
def w'B (ops:Array Oper) (s e:Nat):Bool:=(List.range ops.size).all fun i=>Nat.blt i e||(List.range e).all fun k=>Nat.blt k s||z'N ops i k
theorem w'C {ops:Array Oper} {s e:Nat} (h:w'B ops s e=true): ∀i,e≤i→i<ops.size→ ∀k,s≤k→k<e→z'N ops i k=true:=by
 simp only[w'B,z'h,z'J,y'O,Nat.blt_eq]at h
 intro i hi hs k hk1 hk2
 rcases h i hs with h'|h'
 ·omega
 ·rcases h' k hk2 with h''|h''
  ·omega
  ·exact h''
theorem Ze3 {ops:Array Oper} {res:Nat→FRes} {E:Nat→D}: ∀s,(∀k,k<s→updO E (z'v ops k) (res k).d=E)→y'p ops 0 E res s=E
 |0,_=>rfl
 |s+1,h=>by rw[y'p,Ze3 s (fun k hk=>h k (by omega)),y'd];exact h s (by omega)
theorem Zcf {ops:Array Oper} {res:Nat→FRes} {E:Nat→D} {s:Nat} (h: ∀k,k<s→updO E (z'v ops k) (res k).d=E): ∀j,y'p ops 0 E res (s+j)=y'p ops s E res j
 |0=>Ze3 s h
 |j+1=>by rw[show s+(j+1)=(s+j)+1 by omega,y'p,Zcf h j,y'p,y'd]
theorem VCd.one {P:Program} {n:Nat} {ops:Array Oper} {s:Nat} {S:St} {Q:Exit→St→Prop} {o:Oper} (ho:ops[s]?=some o) (hback: ∀ed,ed∈o.after→Region.binds .any ed=true→ed.on<s) (hbar:w'B ops s (s+1)=true)
  (hg:o.guard=none) (hd:y'B n o=true) (h: ∀K:(Nat→D)→Heap→Prop,(∀E H,VCd P n ops (s+1) ⟨E,H⟩ Q→K E H)→Op1 P o (evD S.env) S.heap (fun d H=>K (updO S.env o.dst d) H)):VCd P n ops s S Q:=by
 intro x a w listed hn hs hsz hl
 have hss:s<ops.size:=by
  rcases z't s ops.size with h'|h'
  ·exact h'
  ·simp[y'e h']at ho
 have hfuel:ops.size-s=(ops.size-(s+1))+1:=by omega
 rw[hfuel]
 have only: ∀i,i∈Region.ready .any ops listed→i=s:=by
  intro i hi
  obtain⟨h1,h2,oi,hoi,hr⟩:=z'8 hsz hi
  have his:s≤i:=by
   rcases z't i s with h'|h'
   ·exact absurd ((hl i).2 h') h2
   ·exact h'
  rcases z'1 his with h'|h'
  ·exact h'.symm
  ·exfalso
   have he:=w'C hbar i (by omega) h1 s (z'c _) (by omega)
   have key: ∀m j,(∀ed,ed∈w'F ops j→isL listed ed)→v'Y ops m j s=true→isL listed s:=by
    intro m
    induction m with
    |zero=>intro j _ hr';simp[v'Y]at hr'
    |succ m ihm=>
     intro j hj hr'
     simp only[v'Y,List.any_eq_true,y'O,z'b,beq_iff_eq]at hr'
     obtain⟨ed,he',hr'⟩:=hr'
     rcases hr' with rfl|⟨hlt,hr'⟩
     ·exact hj _ he'
     ·have h3:=(hl ed).1 (hj ed he')
      have h4:s<ed:=by simpa using hlt
      omega
   have:=(hl s).1 (key _ i (fun ed he'=>by
    obtain⟨oj,ed',q1,q2,q3,rfl⟩:=z'P.1 he'
    rw[hoi]at q1;cases q1
    exact hr ed' q2 q3) he)
   omega
 have hready:s∈Region.ready .any ops listed:=by
  refine mem_ready.2 ⟨?_,o,ho,fun ed he hb=>?_⟩
  ·have hn': ¬isL listed s:=fun h'=>by have:=(hl s).1 h';omega
   cases hq:listed.getD s true with
   |false=>rfl
   |true=>exact absurd ((z'H (by omega)).1 hq) hn'
  ·have:=(hl ed.on).2 (hback ed he hb)
   unfold isL at this
   rw[z'w,this];rfl
 refine⟨fun h0=>by rw[h0]at hready;exact absurd hready z'I,fun i hi=>?_⟩
 obtain rfl:=only i hi
 obtain⟨Φ,hop,hk⟩:=h (fun E H=>VCd P n ops (i+1) ⟨E,H⟩ Q) (fun E H h=>h)
 unfold wpOp
 rw[ho]
 simp only
 rw[if_pos (by simp[Region.wanted,hg])]
 refine .inl ?_
 refine(hop w x.L0 a.eval hs.inv (fun y _=>hs.ev y)).upon ?_
 rintro v w' ⟨d,H',hΦ,hv,hi',he⟩
 exact hk d H' hΦ x _ w' _ hn (hs.put (fun t ht=>hn▸w'E hd t ht) hv hi' he) (by simp[hsz]) (fun k=>by rw[y'y (by omega),hl k];omega)
theorem VCd.tail {P:Program} {n:Nat} {ops:Array Oper} {f:Nat} {S:St} {Q:Exit→St→Prop} (hB:x'I ops f=true) (h:VCo P n ops (ops.toList.drop f) S Q):VCd P n ops f S Q:=by
 have hB:=x'f hB
 intro x a w listed hn hs hsz hl
 exact Zb9 hB (ops.size-f) f listed a w (by have:=hB.le;omega) (z'c _) hsz hl (h x a w hn hs)
open Classical in
noncomputable def hof (H H1:Heap) (st:Nat) (listed:Array Bool):Heap:=if isL listed st then H1 else H
structure GInv (x:Ctx) (ops:Array Oper) (f:Nat) (st:Nat) (res:Nat→D) (H H1:Heap) (a0:Act) (ws:World) (listed:Array Bool) (a:Act) (w:World):Prop where
 lsize:listed.size=ops.size
 down: ∀k o,ops[k]?=some o→isL listed k→ ∀e∈o.after,Region.binds .any e=true→isL listed e.on
 front: ∀k,isL listed k→k<f
 slots: ∀k t,isL listed k→z'v ops k=some t→Rel w (live H x.L0) (res k) (a.tmps.getD t undef)
 rest: ∀t,(∀k,isL listed k→z'v ops k≠some t)→a.tmps.getD t undef=a0.tmps.getD t undef
 inv:HInv w x.L0 (hof H H1 st listed)
 evo:Evo ws H w (hof H H1 st listed)
 defers:a.defers=x.ds
 size:a.tmps.size=x.n
def z'Y (ops:Array Oper) (E0:Nat→D) (res:Nat→D):Nat→Nat→D
 |0=>E0
 |j+1=>updO (z'Y ops E0 res j) (z'v ops j) (res j)
theorem x'0 {ops:Array Oper} {res:Nat→D} {E:Nat→D} {t:Tmp}: ∀i,(∀k,k<i→z'v ops k≠some t)→z'Y ops E res i t=E t
 |0,_=>rfl
 |i+1,h=>by
  rw[z'Y]
  have h1:=h i (by omega)
  cases hd:z'v ops i with
  |none=>simp only[updO];exact x'0 i fun k hk=>h k (by omega)
  |some s=>
   have hne:(s == t)=false:=by
    rw[beq_eq_false_iff_ne]
    intro e;exact h1 (by rw[hd,e])
   simp only[updO,upd,hne,cond_false]
   exact x'0 i fun k hk=>h k (by omega)
theorem w'r {ops:Array Oper} {res:Nat→D} {E:Nat→D} {t:Tmp} {k:Nat}: ∀i,k<i→z'v ops k=some t→(∀l,l<i→l≠k→z'v ops l≠some t)→z'Y ops E res i t=res k
 |0,h,_,_=>by omega
 |i+1,h,hk,hu=>by
  rw[z'Y]
  by_cases e:k=i
  ·subst e
   rw[hk]
   simp[updO,upd]
  ·have h1:=hu i (by omega) (fun e'=>e e'.symm)
   have ih:=w'r (E:=E) (res:=res) i (by omega) hk fun l hl=>hu l (by omega)
   cases hd:z'v ops i with
   |none=>exact ih
   |some s=>
    have hne:(s == t)=false:=by
     rw[beq_eq_false_iff_ne]
     intro e';exact h1 (by rw[hd,e'])
    simp only[updO,upd,hne,cond_false]
    exact ih
def WOk (P:Program) (W:Nat→Bool) (E:Nat→D) (H H1:Heap) (o:Oper) (i st:Nat) (d:D):Prop:=
 o.guard=none∧(i≠st→OpS P o (evD E) H (fun d' H'=>d'=d∧H'=H)∧(W i=true∨OpS P o (evD E) H1 (fun d' H'=>d'=d∧H'=H1)))∧
  (i=st→OpS P o (evD E) H (fun d' H'=>(o.dst=none∨d'=d)∧H'=H1))
section
variable {P : Program} {x : Ctx} {ops : Array Oper} {f st : Nat} {res : Nat → D} {H H1 : Heap} {E : Nat → D} {a0 : Act} {ws : World}
theorem x'O (hbl:H1.blocks=H.blocks) (listed:Array Bool):live (hof H H1 st listed) x.L0=live H x.L0:=by
 unfold hof
 split
 ·exact w'9 hbl _
 ·rfl
theorem GInv.ev (hB:y'2 ops f) (hbl:H1.blocks=H.blocks) (hs0:SRel x ⟨E,H⟩ a0 ws) {listed:Array Bool} {a:Act} {w:World} (h:GInv x ops f st res H H1 a0 ws listed a w)
  {i:Nat} {o:Oper} (ho:ops[i]?=some o) (hif:i<f) (hil: ¬isL listed i) (hready: ∀e∈o.after,Region.binds .any e=true→isL listed e.on) (y:Operand) (hy:y∈o.op.operands):
  Rel w (live H x.L0) (evD (z'Y ops E res i) y) (a.eval y):=by
 have hkeep:Keeps ws (live H x.L0) w (live H x.L0):=fun b hb hn=>by
  have:=h.evo.keeps (L0:=x.L0) b hb hn
  rw[x'O hbl]at this
  exact this
 cases y with
 |const v=>exact v'd _ _ v
 |global g=>rfl
 |func g=>rfl
 |tmp t=>
  have ht:t∈w'H ops i:=by
   unfold w'H
   rw[ho]
   simp only[Oper.looksAt]
   exact z'5 _ (List.mem_filterMap.2 ⟨.tmp t,y'A.2 hy,rfl⟩)
  have hdown: ∀j e,isL listed j→e∈w'F ops j→isL listed e:=fun j e hj he=>by
   obtain⟨oj,ed,h1,h2,h3,rfl⟩:=z'P.1 he
   exact h.down j oj h1 hj ed h2 h3
  have edge: ∀k,z'N ops i k=true→isL listed k:=fun k hk=>
   z'4 hdown _ i k (fun e he=>by
    obtain⟨oj,ed,h1,h2,h3,rfl⟩:=z'P.1 he
    rw[ho]at h1;cases h1
    exact hready ed h2 h3) hk
  have edgeBack: ∀k,isL listed k→z'N ops k i=true→False:=fun k hk he=>
   hil (z'4 hdown _ k i (fun e he=>hdown k e hk he) he)
  show Rel w (live H x.L0) (z'Y ops E res i t) (a.tmps.getD t undef)
  by_cases hex: ∃k,k<i∧z'v ops k=some t
  ·obtain⟨k,hki,hkt⟩:=hex
   have hkl:isL listed k:=by
    have hksz:k<ops.size:=z'm (Nat.lt_trans hki hif) hB.le
    rcases hB.reads i hif t ht k hksz (by omega) hkt with⟨_,h1⟩|⟨h1,_⟩
    ·exact edge k h1
    ·omega
   rw[w'r (E:=E) (res:=res) i hki hkt (fun l hl hne hd=>hB.uniq k l (by omega) (by omega) hne (by rw[hkt];simp) (by rw[hd,hkt]))]
   exact h.slots k t hkl hkt
  ·rw[x'0 (E:=E) (res:=res) (t:=t) i (fun k hk hd=>hex ⟨k,hk,hd⟩),h.rest t ?_]
   ·exact Rel.mono hkeep _ _ (hs0.env t)
   ·intro k hkl hkt
    have hksz:k<ops.size:=z'm (h.front k hkl) hB.le
    have hne:k≠i:=fun e=>hil (e▸hkl)
    have hki: ¬k<i:=fun hlt=>hex ⟨k,hlt,hkt⟩
    rcases hB.reads i hif t ht k hksz hne hkt with⟨h1,_⟩|⟨_,h1⟩
    ·omega
    ·rcases h1 with h1|h1
     ·have:=h.front k hkl;omega
     ·exact edgeBack k hkl h1
theorem GInv.step {W:Nat→Bool} (hW: ∀i,W i=true→z'N ops st i=true) (hB:y'2 ops f) (hbl:H1.blocks=H.blocks) (hs0:SRel x ⟨E,H⟩ a0 ws) {Q:Exit→Act→World→Prop} {listed:Array Bool} {a:Act} {w:World} (h:GInv x ops f st res H H1 a0 ws listed a w)
  (hdst: ∀k t,z'v ops k=some t→t<x.n) {i:Nat} (hr:i∈Region.ready .any ops listed) (hif:i<f) (hok: ∃o,ops[i]?=some o∧WOk P W (z'Y ops E res i) H H1 o i st (res i)):
  wpOp P ops Q i (fun a' w'=>GInv x ops f st res H H1 a0 ws (listed.setIfInBounds i true) a' w') a w:=by
 obtain⟨hisz,hil,o,ho,hready⟩:=z'8 h.lsize hr
 obtain⟨o',ho',hg,hne,heq⟩:=hok
 rw[ho]at ho';cases ho'
 have hisz':i<listed.size:=by rw[h.lsize];exact hisz
 have hm: ∀k,isL (listed.setIfInBounds i true) k↔k=i∨isL listed k:=fun k=>y'y hisz'
 have hdi:z'v ops i=o.dst:=by simp[z'v,ho]
 have hdn: ∀t,o.dst=some t→t<x.n:=fun t ht=>hdst i t (by rw[hdi,ht])
 have ev:=fun y hy=>h.ev hB hbl hs0 ho hif hil hready y hy
 have fin: ∀(v:Value) (w':World) (G:Heap),Evo w (hof H H1 st listed) w' G→HInv w' x.L0 G→G=hof H H1 st (listed.setIfInBounds i true)→(∀t,o.dst=some t→Rel w' (live H x.L0) (res i) v)→
   GInv x ops f st res H H1 a0 ws (listed.setIfInBounds i true) (a.put o.dst v) w':=by
  intro v w' G he hi' hG hv
  subst hG
  have hkeep:Keeps w (live H x.L0) w' (live H x.L0):=by
   have:=he.keeps (L0:=x.L0)
   rw[x'O hbl,x'O hbl]at this
   exact this
  refine{lsize:=by simp[h.lsize],down:=?_,front:=?_,slots:=?_,rest:=?_,inv:=hi',evo:=h.evo.trans he,defers:=?_,size:=?_}
  ·intro k ok hok hk e he' hb
   rw[hm]at hk⊢
   rcases hk with rfl|hk
   ·rw[ho]at hok;cases hok
    exact .inr (hready e he' hb)
   ·exact .inr (h.down k ok hok hk e he' hb)
  ·intro k hk
   rcases(hm k).1 hk with rfl|hk
   ·exact hif
   ·exact h.front k hk
  ·intro k t hk hkt
   rcases(hm k).1 hk with rfl|hk
   ·rw[hdi]at hkt
    rw[x'o h.size,if_pos ⟨hkt,hdn t hkt⟩]
    exact hv t hkt
   ·have hne':k≠i:=fun e=>hil (e▸hk)
    rw[x'o h.size,if_neg]
    ·exact Rel.mono hkeep _ _ (h.slots k t hk hkt)
    ·rintro⟨h1,_⟩
     rw[←hdi]at h1
     exact hB.uniq i k hif (h.front k hk) hne' (by rw[h1];simp) (by rw[hkt,h1])
  ·intro t hno
   rw[x'o h.size,if_neg]
   ·exact h.rest t fun k hk=>hno k ((hm k).2 (.inr hk))
   ·rintro⟨h1,_⟩
    exact hno i ((hm i).2 (.inl rfl)) (by rw[hdi,h1])
  ·cases o.dst<;>exact h.defers
  ·cases o.dst<;>simp[Act.put,h.size]
 unfold wpOp
 rw[ho]
 simp only
 rw[if_pos (by simp[Region.wanted,hg])]
 refine .inl ?_
 by_cases e:i=st
 ·have hop:=heq e
  have hH:hof H H1 st listed=H:=by unfold hof;rw[if_neg (by rw[←e];exact hil)]
  have hH1:hof H H1 st (listed.setIfInBounds i true)=H1:=by unfold hof;rw[if_pos (by rw[←e];exact(hm i).2 (.inl rfl))]
  have hi:=h.inv
  rw[hH]at hi
  refine(hop w x.L0 a.eval hi ev).upon ?_
  rintro v w' ⟨d',H',⟨hd0,rfl⟩,hv,hi',he⟩
  refine fin v w' _ (by rw[hH];exact he) hi' hH1.symm (fun t ht=>?_)
  rcases hd0 with h0|rfl
  ·rw[h0]at ht;cases ht
  ·rw[w'9 hbl]at hv;exact hv
 ·have hS:hof H H1 st (listed.setIfInBounds i true)=hof H H1 st listed:=by
   unfold hof
   by_cases hl:isL listed st
   ·rw[if_pos hl,if_pos ((hm st).2 (.inr hl))]
   ·rw[if_neg hl,if_neg (fun h'=>by rcases(hm st).1 h' with h'|h';exact e h'.symm;exact hl h')]
  obtain⟨o1,o2⟩:=hne e
  have hop:OpS P o (evD (z'Y ops E res i)) (hof H H1 st listed) (fun d' H'=>d'=res i∧H'=hof H H1 st listed):=by
   unfold hof
   split
   ·rename_i hls
    rcases o2 with hwi|o2
    ·exact absurd (z'4 (S:=isL listed) (fun j' e hj' he'=>by
      obtain⟨oj,ed,q1,q2,q3,rfl⟩:=z'P.1 he'
      exact h.down j' oj q1 hj' ed q2 q3) _ st i (fun e he=>by
      obtain⟨oj,ed,q1,q2,q3,rfl⟩:=z'P.1 he
      exact h.down st oj q1 hls ed q2 q3) (hW i hwi)) hil
    ·exact o2
   ·exact o1
  refine(hop w x.L0 a.eval h.inv (fun y hy=>by rw[x'O hbl];exact ev y hy)).upon ?_
  rintro v w' ⟨d',H',⟨rfl,rfl⟩,hv,hi',he⟩
  rw[x'O hbl]at hv
  exact fin v w' _ he hi' hS.symm (fun t ht=>hv)
theorem ZiH {W:Nat→Bool} (hW: ∀i,W i=true→z'N ops st i=true) (hB:y'2 ops f) (hbl:H1.blocks=H.blocks) (hs0:SRel x ⟨E,H⟩ a0 ws) {Q:Exit→Act→World→Prop} {e:Nat} (hef:e≤f) (bar: ∀i,e≤i→i<ops.size→ ∀k,k<e→z'N ops i k=true)
  (hok: ∀j,j<e→ ∃o,ops[j]?=some o∧WOk P W (z'Y ops E res j) H H1 o j st (res j)) (hdst: ∀k t,z'v ops k=some t→t<x.n)
  (hfin: ∀listed a w,(∀k,isL listed k↔k<e)→GInv x ops f st res H H1 a0 ws listed a w→wpAny P .any ops Q (ops.size-e) listed a w):
  ∀(fuel:Nat) (listed:Array Bool) (a:Act) (w:World),unl listed ops.size=fuel→(∀k,isL listed k→k<e)→GInv x ops f st res H H1 a0 ws listed a w→wpAny P .any ops Q fuel listed a w:=by
 have hes:e≤ops.size:=z'E hef hB.le
 intro fuel
 induction fuel with
 |zero=>
  intro listed a w hu hup h
  have all: ∀k,k<ops.size→isL listed k:=fun k hk=>w'6 h.lsize hu hk
  have hl: ∀k,isL listed k↔k<e:=fun k=>⟨hup k,fun hk=>all k (by omega)⟩
  have he:ops.size-e=0:=by
   rcases z'1 hes with h'|h'
   ·omega
   ·have:=hup e (all e h');omega
  have:=hfin listed a w hl h
  rwa [he]at this
 |succ fuel ih=>
  intro listed a w hu hup h
  by_cases hall: ∀k,k<e→isL listed k
  ·have hl: ∀k,isL listed k↔k<e:=fun k=>⟨hup k,hall k⟩
   have hcount:ops.size-e=fuel+1:=by
    have key: ∀m,m≤ops.size→((List.range m).filter fun k=> !listed.getD k true).length=m-e:=by
     intro m
     induction m with
     |zero=>intro _;simp
     |succ m ihm=>
      intro hm
      rw[z'9,z'G,z'r,ihm (by omega)]
      by_cases hmf:m<e
      ·have:listed.getD m true=true:=(z'H (by rw[h.lsize];omega)).2 ((hl m).2 hmf)
       rw[z'S,this];simp;omega
      ·have:listed.getD m true=false:=by
        cases hq:listed.getD m true with
        |false=>rfl
        |true=>exact absurd ((hl m).1 ((z'H (by rw[h.lsize];omega)).1 hq)) hmf
       rw[z'S,this];simp;omega
    have:=key ops.size (z'c _)
    unfold unl at hu
    omega
   have:=hfin listed a w hl h
   rwa [hcount]at this
  ·have hex: ∃k,k<e∧ ¬isL listed k:=by
    refine z'j fun hn=>hall fun k hk=>z'j fun hkl=>hn ⟨k,hk,hkl⟩
   have least: ∀m, ∀k,k≤m→k<e→ ¬isL listed k→ ∃k',k'<e∧ ¬isL listed k'∧ ∀l,l<k'→isL listed l:=by
    intro m
    induction m with
    |zero=>intro k hk hkf hkl;exact⟨k,hkf,hkl,fun l hl=>by omega⟩
    |succ m ihm=>
     intro k hk hkf hkl
     by_cases hp: ∀l,l<k→isL listed l
     ·exact⟨k,hkf,hkl,hp⟩
     ·have: ∃l,l<k∧ ¬isL listed l:=z'j fun hn=>hp fun l hl=>z'j fun hll=>hn ⟨l,hl,hll⟩
      obtain⟨l,h1,h2⟩:=this
      exact ihm l (by omega) (by omega) h2
   obtain⟨k0,hk0f,hk0⟩:=hex
   obtain⟨k,hkf,hkl,hkp⟩:=least k0 k0 (z'c _) hk0f hk0
   have hks:k<ops.size:=z'm hkf hes
   have hready:k∈Region.ready .any ops listed:=by
    refine mem_ready.2 ⟨?_,ops[k],by simp[hks],fun ed he hb=>?_⟩
    ·cases hq:listed.getD k true with
     |false=>rfl
     |true=>exact absurd ((z'H (by rw[h.lsize];omega)).1 hq) hkl
    ·have hlt:=hB.back k ops[k] (by simp[hks]) ed he hb
     have:=hkp ed.on hlt
     unfold isL at this
     rw[z'w,this];rfl
   refine⟨fun h0=>by rw[h0]at hready;exact absurd hready z'I,fun i hi=>?_⟩
   obtain⟨h1,h2,o,ho,hr⟩:=z'8 h.lsize hi
   have hie:i<e:=by
    rcases z't i e with h'|h'
    ·exact h'
    ·exfalso
     have he:=bar i h' h1 k hkf
     exact hkl (z'4 (S:=isL listed) (fun j' ed hj' he'=>by
      obtain⟨oj,ed,q1,q2,q3,rfl⟩:=z'P.1 he'
      exact h.down j' oj q1 hj' ed q2 q3) _ i k (fun ed he'=>by
      obtain⟨oj,ed,q1,q2,q3,rfl⟩:=z'P.1 he'
      rw[ho]at q1;cases q1
      exact hr ed q2 q3) he)
   have hisz:i<listed.size:=by rw[h.lsize];exact h1
   refine wpOp_mono (fun a' w' h'=>ih _ a' w' ?_ (fun k hk=>?_) h') (h.step hW hB hbl hs0 hdst hi (by omega) (hok i hie))
   ·have:=v'b h.lsize h1 h2
    omega
   ·rcases(y'y hisz).1 hk with rfl|hk
    ·exact hie
    ·exact hup k hk
end
def VCx {P:Program} (T:Tab P) (W:Nat→Bool) (st:Nat) (H H1:Heap) (K:(Nat→D)→Prop):Nat→Nat→List Oper→(Nat→D)→Prop
 |0,_,_,E=>K E
 |_+1,_,[],_=>False
 |m+1,i,o::l,E=> ∃d,WOk P W E H H1 o i st d∧VCx T W st H H1 K m (i+1) l (updO E o.dst d)
def VCw {P:Program} (T:Tab P) (st:Nat) (H H1:Heap) (K:(Nat→D)→Prop):Nat→Nat→List Oper→(Nat→D)→Prop:=VCx T (fun _=>false) st H H1 K
section
variable {P : Program} (T : Tab P) {st : Nat} {H H1 : Heap} {K : (Nat → D) → Prop} {m i : Nat} {E : Nat → D} {o : Oper} {l : List Oper}
theorem VCw.nil (h:K E):VCw T st H H1 K 0 i l E:=h
theorem VCw.step {d:D} {t:Tmp} (hg:o.guard=none) (ht:o.dst=some t) (hi:Nat.beq i st=false) (h1:opC T o (evD E) H (fun d' H'=>d'=d∧H'=H)) (h1':opC T o (evD E) H1 (fun d' H'=>d'=d∧H'=H1)) (h2:VCw T st H H1 K m (i+1) l (upd E t d)):
  VCw T st H H1 K (m+1) i (o::l) E:=
 (show VCx T (fun _=>false) st H H1 K (m+1) i (o::l) E from⟨d,⟨hg,fun _=>⟨w'T T h1,.inr (w'T T h1')⟩,fun e=>by subst e;rw[y'8]at hi;cases hi⟩,by rw[ht];exact h2⟩)
theorem VCw.write (hg:o.guard=none) (ht:o.dst=none) (hi:i=st) (h1:opC T o (evD E) H (fun d' H'=>H'=H1)) (h2:VCw T st H H1 K m (i+1) l E):VCw T st H H1 K (m+1) i (o::l) E:=
 (show VCx T (fun _=>false) st H H1 K (m+1) i (o::l) E from⟨.any,⟨hg,fun e=>absurd hi e,fun _=>let ⟨_,q1,q2⟩:=x'L T h1;q1.mono fun d' H' hp=>⟨.inl ht,q2 _ _ hp⟩⟩,by rw[ht];exact h2⟩)
theorem VCx.write {W:Nat→Bool} (hg:o.guard=none) (ht:o.dst=none) (hi:i=st) (h1:opC T o (evD E) H (fun d' H'=>H'=H1)) (h2:VCx T W st H H1 K m (i+1) l E):VCx T W st H H1 K (m+1) i (o::l) E:=
 ⟨.any,⟨hg,fun e=>absurd hi e,fun _=>let ⟨_,q1,q2⟩:=x'L T h1;q1.mono fun d' H' hp=>⟨.inl ht,q2 _ _ hp⟩⟩,by rw[ht];exact h2⟩
end
theorem VCx.extract {P:Program} {T:Tab P} {W:Nat→Bool} {ops:Array Oper} {st:Nat} {H H1:Heap} {K:(Nat→D)→Prop} {E0:Nat→D}: ∀(m i:Nat) (res0:Nat→D),VCx T W st H H1 K m i (ops.toList.drop i) (z'Y ops E0 res0 i)→
  ∃res:Nat→D,(∀k,k<i→res k=res0 k)∧(∀j,i≤j→j<i+m→ ∃o,ops[j]?=some o∧WOk P W (z'Y ops E0 res j) H H1 o j st (res j))∧K (z'Y ops E0 res (i+m))
 |0,i,res0,h=>⟨res0,fun _ _=>rfl,fun j h1 h2=>by omega,h⟩
 |m+1,i,res0,h=>by
  cases hl:ops.toList.drop i with
  |nil=>rw[hl]at h;exact h.elim
  |cons o l=>
   rw[hl]at h
   obtain⟨d,h1,h2⟩:=h
   have hi:ops[i]?=some o:=by
    have:(ops.toList.drop i)[0]?=some o:=by rw[hl];rfl
    rw[z'7]at this
    simpa using this
   have hl':l=ops.toList.drop (i+1):=by
    have:ops.toList.drop (i+1)=(ops.toList.drop i).drop 1:=by rw[y'5]
    rw[this,hl];rfl
   let res1:Nat→D:=fun k=>if k=i then d else res0 k
   have e1: ∀j,j≤i→z'Y ops E0 res1 j=z'Y ops E0 res0 j:=by
    intro j
    induction j with
    |zero=>intro _;rfl
    |succ j ihj=>
     intro hj
     rw[z'Y,z'Y,ihj (by omega)]
     have:res1 j=res0 j:=by simp only[res1];rw[if_neg (by omega)]
     rw[this]
   have e2:z'Y ops E0 res1 (i+1)=updO (z'Y ops E0 res0 i) o.dst d:=by
    rw[z'Y,e1 i (z'c _)]
    have:res1 i=d:=by simp[res1]
    rw[this]
    simp[z'v,hi]
   rw[hl', ←e2]at h2
   obtain⟨res,q1,q2,q3⟩:=VCx.extract m (i+1) res1 h2
   have e3: ∀j,j≤i+1→z'Y ops E0 res j=z'Y ops E0 res1 j:=by
    intro j
    induction j with
    |zero=>intro _;rfl
    |succ j ihj=>
     intro hj
     rw[z'Y,z'Y,ihj (by omega),q1 j (by omega)]
   refine⟨res,fun k hk=>?_,fun j hj1 hj2=>?_,?_⟩
   ·rw[q1 k (by omega)]
    simp only[res1];rw[if_neg (by omega)]
   ·rcases z'1 hj1 with rfl|hlt
    ·refine⟨o,hi,?_⟩
     rw[e3 _ (by omega),e1 _ (z'c _),q1 _ (by omega)]
     have:res1 i=d:=by simp[res1]
     rw[this]
     exact h1
    ·exact q2 j (by omega) (by omega)
   ·rw[show i+(m+1)=i+1+m by omega]
    exact q3
theorem VCd.groupX {P:Program} (T:Tab P) (W:Nat→Bool) {n:Nat} {ops:Array Oper} {E:Nat→D} {H:Heap} {Q:Exit→St→Prop} (H1:Heap) (st e f:Nat) (hbl:H1.blocks=H.blocks) (hst:Nat.blt st e=true) (hef:Nat.ble e f=true) (hB:x'I ops f=true) (hbar:w'B ops 0 e=true) (hd:ops.toList.all (y'B n)=true)
  (hW: ∀i,W i=true→z'N ops st i=true)
  (h:VCx T W st H H1 (fun E'=>VCd P n ops e ⟨E',H1⟩ Q) e 0 ops.toList E):VCd P n ops 0 ⟨E,H⟩ Q:=by
 have hB:=x'f hB
 have hef:e≤f:=z'i hef
 have hst:st<e:=by simpa using hst
 intro x a0 w hn' hn hs hsz hl0
 obtain⟨res,_,hok,hK⟩:=VCx.extract (ops:=ops) (E0:=E) e 0 (fun _=> .any) (by rw[y'T];exact h)
 rw[y'd]at hK
 have hdst: ∀k t,z'v ops k=some t→t<x.n:=fun k t hk=>hn▸v'w (l:=ops.toList) hd k t (by simpa using hk)
 have hno: ∀k, ¬isL hn' k:=fun k hk=>by have:=(hl0 k).1 hk;omega
 have hH0:hof H H1 st hn'=H:=by unfold hof;rw[if_neg (hno st)]
 refine ZiH (x:=x) (res:=res) (E:=E) (H:=H) (H1:=H1) (st:=st) (a0:=a0) (ws:=w) (f:=f) hW hB hbl hs hef (fun i h1 h2 k hk=>w'C hbar i h1 h2 k (z'Q _) hk) (fun j hj=>hok j (z'Q _) (by omega)) hdst ?_ _ hn' a0 w ?_ (fun k hk=>absurd hk (hno k)) ?_
 ·intro listed a w' hl hF
  have hH1:hof H H1 st listed=H1:=by unfold hof;rw[if_pos ((hl st).2 hst)]
  have hlv:live H1 x.L0=live H x.L0:=w'9 hbl _
  refine hK x a w' listed hn ?_ hF.lsize hl
  have hevo:=hF.evo
  have hinv:=hF.inv
  rw[hH1]at hevo hinv
  refine{env:=fun t=>?_,inv:=hinv,evo:=hs.evo.trans hevo,defers:=hF.defers,size:=hF.size}
  simp only
  rw[hlv]
  by_cases hex: ∃k,k<e∧z'v ops k=some t
  ·obtain⟨k,hkf,hkt⟩:=hex
   rw[w'r e hkf hkt (fun j hj hne hd'=>hB.uniq k j (by omega) (by omega) hne (by rw[hkt];simp) (by rw[hd',hkt]))]
   exact hF.slots k t ((hl k).2 hkf) hkt
  ·rw[x'0 e (fun k hk hd'=>hex ⟨k,hk,hd'⟩),hF.rest t (fun k hk hd'=>hex ⟨k,(hl k).1 hk,hd'⟩)]
   have hkeep:=hevo.keeps (L0:=x.L0)
   rw[hlv]at hkeep
   exact Rel.mono hkeep _ _ (hs.env t)
 ·unfold unl
  rw[Nat.sub_zero,List.filter_eq_self.2]
  ·simp
  ·intro k hk
   have:=z'J.1 hk
   cases hq:hn'.getD k true with
   |false=>rfl
   |true=>exact absurd ((z'H (by omega)).1 hq) (hno k)
 ·refine{lsize:=hsz,down:=fun k o _ hk=>absurd hk (hno k),front:=fun k hk=>absurd hk (hno k),slots:=fun k t hk=>absurd hk (hno k),rest:=fun t _=>rfl,inv:=by rw[hH0];exact hs.inv,evo:=by rw[hH0];exact Evo.refl _ _,defers:=hs.defers,size:=hs.size}
theorem VCd.groupW {P:Program} (T:Tab P) {n:Nat} {ops:Array Oper} {E:Nat→D} {H:Heap} {Q:Exit→St→Prop} (H1:Heap) (st e f:Nat) (hbl:H1.blocks=H.blocks) (hst:Nat.blt st e=true) (hef:Nat.ble e f=true) (hB:x'I ops f=true) (hbar:w'B ops 0 e=true) (hd:ops.toList.all (y'B n)=true)
  (h:VCw T st H H1 (fun E'=>VCd P n ops e ⟨E',H1⟩ Q) e 0 ops.toList E):VCd P n ops 0 ⟨E,H⟩ Q:=
 VCd.groupX T (fun _=>false) H1 st e f hbl hst hef hB hbar hd (fun _ h=>by cases h) h
section
variable {P : Program} {n : Nat} {ops : Array Oper} {o : Oper} {r : List Oper} {E : Nat → D} {H : Heap} {Q : Exit → St → Prop}
theorem VCo.gundef {j g:Nat} {want:Bool} (hg:o.guard=some (j,want)) (hj:(ops[j]?).bind (·.dst)=some g) (hgn:Nat.blt g n=true) (hd:y'B n o=true) (ht:E g= .is undef)
  (h:VCo P n ops r ⟨updO E o.dst (.is undef),H⟩ Q):VCo P n ops (o::r) ⟨E,H⟩ Q:=fun x a w hn hs=>by
 have h2:a.tmps[g]?=some undef:=by
  have h1:=hs.env g
  rw[show(⟨E,H⟩:St).env g= .is undef from ht]at h1
  have hlt:g<a.tmps.size:=by rw[hs.size,hn];simpa using hgn
  have h3:a.tmps.getD g undef=undef:=h1
  simp[Array.getD,hlt]at h3
  simp[hlt,h3]
 have hy:yielded ops a.tmps j=none:=by simp[yielded,hj,h2,undef]
 unfold wpList
 simp only[Region.wanted,hg,hy]
 rw[if_neg (by simp)]
 exact h x _ w hn (hs.put (s:=⟨E,H⟩) (fun t ht=>hn▸w'E hd t ht) rfl hs.inv (Evo.refl _ _))
end
def cSrc (esz:Nat) (x:D) (H:Heap) (K:List D→Nat→Prop):Prop:=
 match x with
 | .sl _ esz' rows=>esz'=esz∧K rows.flatten rows.length
 | .gs none _=>K [] 0
 | .gs (some (b,_)) n=>match y'Z H b with
  |some (.cells _ _ l)=>n*esz≤l.length∧K (l.take (n*esz)) n
  |_=>False
 | .os b o n _=>match y'Z H b with
  |some (.cells _ _ l)=>o+n*esz≤l.length∧K ((l.drop o).take (n*esz)) n
  |_=>False
 |_=>False
theorem ZlL {esz:Nat} {x:D} {H:Heap} {K:List D→Nat→Prop} (h:cSrc esz x H K): ∃news m,srcOk esz x H news m∧K news m:=by
 unfold cSrc at h
 split at h
 ·exact⟨_,_,⟨h.1,rfl,rfl⟩,h.2⟩
 ·exact⟨_,_,⟨rfl,rfl⟩,h⟩
 ·split at h
  ·rename_i hg;exact⟨_,_,⟨_,_,_,hg,h.1,rfl,rfl⟩,h.2⟩
  ·exact h.elim
 ·split at h
  ·rename_i hg;exact⟨_,_,⟨_,_,_,hg,h.1,rfl,rfl⟩,h.2⟩
  ·exact h.elim
 ·exact h.elim
def cPut (esz b o n:Nat) (news:List D) (m:Nat) (H:Heap) (K:D→Heap→Prop):Prop:=
 match y'Z H b with
 |some (.cells ty k l)=>o+Nat.min m n*esz≤l.length∧K (.is (.int .i64 (Nat.min m n:Nat))) (hset H b (.cells ty k (setL l o (news.take (Nat.min m n*esz)))))
 |_=>False
def cCopy (kd:Kd) (d x:D) (H:Heap) (K:D→Heap→Prop):Prop:=
 match kd with
 | .slice e esz eb _ _=>cSrc esz x H fun news m=>
  match d with
  | .gs none _=>K (.is (.int .i64 0)) H
  | .gs (some (b,cap)) n=>cPut esz b 0 n news m H K
  | .os b o n cap=>cPut esz b o n news m H K
  |_=>False
 |_=>False
theorem Zcx: ∀{H:Heap} {b:Nat} {c:HC},y'Z H b=some c→hset H b c=H
 |[],_,_,h=>by simp[hset]
 |(k,c0)::H,b,c,h=>by
  by_cases e:k=b
  ·subst e
   rw[v'E]at h
   rw[ZeP,z'2 h]
  ·rw[Zan e]at h
   rw[ZeQ e,Zcx h]
theorem Zfy {P:Program} (w:World) (dT sT ty elem:TypeId) {inf:TypeInfo} (g o dLen dCap:Nat) (a:Addr) (sLen sCap:Nat) (cur:Array Value) (t:TypeId) (cs:List Value)
  (hu:P.underlying dT=some (.slice elem)) (hi:P.info? elem=some inf)
  (hg:w.heap[g]?=some (.cells cur t (0,0))) (hn:cs.length=Nat.min sLen dLen*inf.size)
  (hsrc: ∀j v,cs[j]?=some v→w.cell? (a.add j)=some v) (hfit:o+cs.length≤cur.size) (h1: ∀v∈cs,v.oneCell'=true):
  (Builtin.copy_ #[dT,sT] ty #[.slice (some ⟨g,o,none⟩) dLen dCap,.slice (some a) sLen sCap]).run P w=
   .ok (goInt (Nat.min sLen dLen)) (w.setRow g (cur.toList.take o++cs++cur.toList.drop (o+cs.length)).toArray):=by
 have hl:=run_loadCells_list (P:=P) w a cs hsrc
 have hst:=run_storeCells_at P g o t cs 0 cur w hg (by simpa using hfit) h1
 simp[Builtin.copy_,run_underlying hu,Builtin.lenOf,Builtin.firstCells,sizeOf,typeInfo,hi, ←hn,hl,hst]
theorem ZaD {P:Program} (w:World) (dT sT ty elem:TypeId) {inf:TypeInfo} (d:Option Addr) (dLen dCap:Nat) (hu:P.underlying dT=some (.slice elem)) (hi:P.info? elem=some inf):
  (Builtin.copy_ #[dT,sT] ty #[.slice d dLen dCap,.slice none 0 0]).run P w= .ok (goInt 0) w:=by
 cases d<;>simp[Builtin.copy_,run_underlying hu,Builtin.lenOf,Builtin.firstCells,sizeOf,typeInfo,hi,storeCells]
theorem Zcc {P:Program} (w:World) (dT sT ty elem:TypeId) {inf:TypeInfo} (d:Option Addr) (dCap:Nat) (a:Addr) (sLen sCap:Nat) (hu:P.underlying dT=some (.slice elem)) (hi:P.info? elem=some inf):
  (Builtin.copy_ #[dT,sT] ty #[.slice d 0 dCap,.slice (some a) sLen sCap]).run P w= .ok (goInt 0) w:=by
 have hl:(loadCells a 0).run P w= .ok #[] w:=by simpa using run_loadCells_list (P:=P) w a [] (by simp)
 cases d<;>simp[Builtin.copy_,run_underlying hu,Builtin.lenOf,Builtin.firstCells,sizeOf,typeInfo,hi,storeCells,hl]
theorem Zeh {P:Program} (T:Tab P) {o:Oper} {E:Operand→D} {H:Heap} {K:D→Heap→Prop} {s x:Operand} {t u:TypeId} (ho:o.op= .call ⟨.builtin .copy, #[s,x], #[t,u]⟩)
  (hk:cCopy (kdT (T.get t)) (E s) (E x) H K):Op1 P o E H K:=by
 unfold cCopy at hk
 split at hk
 ·rename_i e esz eb ea ez hkd
  obtain⟨hu,hkn,hsz,_⟩:=y'J T hkd
  obtain⟨d,inf,z,_,hinf,_,h4,_⟩:=y'g hkn
  rw[hsz]at h4
  obtain⟨news,m,hsrc,hk⟩:=ZlL hk
  have run: ∀(ε:Operand→Value) (w w':World) (v:Value),(Builtin.copy_ #[t,u] o.type #[ε s,ε x]).run P w= .ok v w'→(execOp ε o).run P w= .ok (.value v) w':=by
   intro ε w w' v h
   simp only[execOp,ho,resolve,invoke,builtin]
   simp[go_sem,h]
  have put: ∀(b off n:Nat),(∀(w:World) (L0:Nat→Prop) (v:Value),Rel w (live H L0) (E s) v→ ∃o' cap,v= .slice (some ⟨b,o',none⟩) n cap∧(n≠0→o'=off))→cPut esz b off n news m H K→Op1 P o E H K:=by
   intro b off n hv hk
   unfold cPut at hk
   split at hk
   ·rename_i ty k l hg
    obtain⟨hfit,hk⟩:=hk
    have hm:=y'H hg
    have hbm:b∈H.blocks:=z'o.2 ⟨_,hm,rfl⟩
    refine⟨fun d' H'=>d'= .is (.int .i64 (Nat.min m n:Nat))∧H'=hset H b (.cells ty k (setL l off (news.take (Nat.min m n*esz)))),?_,fun _ _ ⟨h1,h2⟩=>h1▸h2▸hk⟩
    intro w L0 ε hi hx
    have h1:=hx s (by simp[ho,Op.operands,Call.operands])
    have h2:=hx x (by simp[ho,Op.operands,Call.operands])
    obtain⟨o',cap,hd,ho'⟩:=hv w L0 _ h1
    obtain⟨nv,k1,k2,k3,k4⟩:=ZaI hi hsrc h2
    obtain⟨hl1,arr,hb,hn,hrel⟩:=hi.rel _ _ hm
    have hll:=RelL.length _ _ hrel
    simp only[z'z,z'C]at hll
    have hnl:=RelL.length _ _ k1
    have setnil: ∀(l:List D) (o:Nat),setL l o []=l:=fun l o=>by rw[setL]
    have same:Nat.min m n=0→ ∃d H',(d= .is (.int .i64 (Nat.min m n:Nat))∧H'=hset H b (.cells ty k (setL l off (news.take (Nat.min m n*esz)))))∧Rel w (live H' L0) d (goInt 0)∧HInv w L0 H'∧Evo w H w H':=by
     intro h0
     refine⟨_,_,⟨rfl,rfl⟩,?_⟩
     rw[h0,w'i,List.take_zero,setnil,Zcx hg]
     exact⟨rfl,hi,Evo.refl _ _⟩
    rcases k4 with⟨rfl,hxv⟩|⟨ad,c,hxv,hc⟩
    ·rw[run ε w w (goInt 0) (by rw[hd,hxv];exact ZaD w t u o.type e _ _ _ hu hinf)]
     exact same (Nat.zero_min n)
    ·by_cases hn0:n=0
     ·subst hn0
      rw[run ε w w (goInt 0) (by rw[hd,hxv];exact Zcc w t u o.type e _ _ ad m c hu hinf)]
      exact same (Nat.min_zero m)
     ·obtain rfl:=ho' hn0
      have hmn:Nat.min m n≤m:=Nat.min_le_left m n
      have htl:(nv.take (Nat.min m n*esz)).length=Nat.min m n*esz:=by
       rw[z'z,hnl,k3]
       exact Nat.min_eq_left (Nat.mul_le_mul_right _ hmn)
      have hrel':=RelL.take (Nat.min m n*esz) _ _ k1
      have hone':(news.take (Nat.min m n*esz)).all oneD=true:=w'p k2 _
      have hr:=Zfy (P:=P) w t u o.type e (inf:=inf) b o' n cap ad m c arr ty (nv.take (Nat.min m n*esz)) hu hinf hb (by rw[htl,h4])
       (fun j v hj=>hc j v (by rw[y'v]at hj;split at hj;exact hj;cases hj)) (by rw[htl];omega) (RelL.one _ _ hone' hrel')
      rw[htl]at hr
      rw[run ε w _ _ (by rw[hd,hxv];exact hr)]
      have hcells:arr.toList.take o'++nv.take (Nat.min m n*esz)++arr.toList.drop (o'+Nat.min m n*esz)=x'm arr.toList o' (nv.take (Nat.min m n*esz)):=by
       rw[w'U _ _ _ (by rw[htl,z'C];omega),htl]
      rw[hcells]
      have hevo:Evo w H (w.setRow b (x'm arr.toList o' (nv.take (Nat.min m n*esz))).toArray) (hset H b (.cells ty k (setL l o' (news.take (Nat.min m n*esz))))):=Zac hbm _ (y'1 _ _ _)
      refine⟨.is (.int .i64 (Nat.min m n:Nat)),_,⟨rfl,rfl⟩,rfl,?_,hevo⟩
      have hke:Keeps w (live H L0) (w.setRow b (x'm arr.toList o' (nv.take (Nat.min m n*esz))).toArray) (live H L0):=fun k hk1 hn=>⟨setRow_other w b k _ (fun e=>hn (.inr (e▸hbm))),hn⟩
      refine HInv.set hi hbm (by simp[World.setRow]) (fun k hne hk1=>setRow_other w b k _ hne) ⟨Zdo _ _ _ hl1 hone',_,setRow_heap w b arr _ ty _ hb,?_,?_⟩
      ·simp[v'r,hn]
      ·rw[Zbc]
       simp only[]
       rw[Zen _ _ _ _ (by rw[htl];omega) (by simp;omega)]
       exact RelL.setL _ _ _ _ _ (RelL.mono hke _ _ hrel) (RelL.mono hke _ _ hrel')
   ·exact hk.elim
  split at hk
  ·rename_i n hs0
   refine Op1.value (d:= .is (.int .i64 0)) (fun w L0 ε hi hx=>?_) hk
   have h1:=hx s (by simp[ho,Op.operands,Call.operands])
   have h2:=hx x (by simp[ho,Op.operands,Call.operands])
   rw[hs0,Rel]at h1
   obtain⟨hv,hn⟩:=h1
   obtain rfl:n=0:=hn
   obtain⟨nv,k1,k2,k3,k4⟩:=ZaI hi hsrc h2
   refine⟨goInt 0,run ε w w _ ?_,rfl⟩
   rw[hv]
   rcases k4 with⟨rfl,hxv⟩|⟨ad,c,hxv,hc⟩
   ·rw[hxv];exact ZaD w t u o.type e _ _ _ hu hinf
   ·rw[hxv];exact Zcc w t u o.type e _ _ ad m c hu hinf
  ·rename_i b cap n hs0
   refine put b 0 n (fun w L0 v hr=>?_) hk
   rw[hs0,Rel]at hr
   exact⟨0,cap,hr.1,fun _=>rfl⟩
  ·rename_i b off n cap hs0
   refine put b off n (fun w L0 v hr=>?_) hk
   rw[hs0,Rel]at hr
   obtain⟨o',h1,h2,h3⟩:=hr
   exact⟨o',cap,h1,fun hn=>h3 (by omega)⟩
  ·exact hk.elim
 ·exact hk.elim
theorem HB:type_of% (@Heap.blocks.eq_def)∧
 type_of% (@List.map_cons.{0,0})∧
 type_of% (@List.map_nil.{0,0})∧
 type_of% (@List.mem_cons.{0})∧
 type_of% (@List.not_mem_nil.{0})∧
 type_of% (@or_false)∧
 type_of% (@not_or)∧
 type_of% (@not_false_eq_true):=
 ⟨@Heap.blocks.eq_def, @List.map_cons.{0,0}, @List.map_nil.{0,0}, @List.mem_cons.{0}, @List.not_mem_nil.{0}, @or_false, @not_or, @not_false_eq_true⟩
attribute [go_sem] List.append_eq Zhk Zgw v'E Zan ZeP ZeQ cond_true cond_false beq_self_eq_true Nat.ble_eq Bool.and_true Bool.true_and Bool.and_self Nat.beq_eq_true_eq List.map_cons List.map_nil List.length_cons List.length_nil List.set_cons_zero List.set_cons_succ List.getElem?_cons_zero List.getElem?_cons_succ List.all_cons List.all_nil List.drop_succ_cons List.drop_zero List.take_succ_cons List.take_zero List.take_nil List.drop_nil Option.map_some Option.map_none Option.some.injEq exists_eq_left' true_and and_true List.replicate_succ List.replicate_zero List.flatten_cons List.flatten_nil List.append_nil List.nil_append List.cons_append Nat.zero_mul Int.toNat_natCast List.length_map List.getElem?_map Nat.zero_add Nat.add_zero opC.eq_def cConvS.eq_def cRange.eq_def cNext.eq_def kdElem.eq_def numsOf.eq_def evD.eq_def constD.eq_def updO.eq_def upd.eq_def kdT.eq_def cPick.eq_def cBin.eq_def cInt.eq_def cStr.eq_def kTag.eq_def cUn.eq_def cLoad.eq_def fieldAt.eq_def cFieldAddr.eq_def cField.eq_def cIndexAddr.eq_def cIndex.eq_def cExtract.eq_def cNil.eq_def cBuild.eq_def cAlloc.eq_def cBox.eq_def cStore.eq_def cBuildSlice.eq_def cMake.eq_def cCopy.eq_def cSrc.eq_def cPut.eq_def cSlice.eq_def cLen.eq_def cAppS.eq_def cAppend.eq_def dC.eq_def dV.eq_def sameB.eq_def cellsD.eq_def oneD.eq_def Value.oneCell'.eq_def srcOk.eq_def
attribute [go_sem] x'K v'c v'I setL x'z
@[irreducible] def VO (P : Program) (n : Nat) (ops : Array Oper) (b : Bool) (r : List Oper) (Q : Exit → St → Prop) (E : Nat → D) (H : Heap) : Prop := match b, r with
 |true,o::r=>VCr P n ops o r ⟨E,H⟩ Q
 |_,r=>VCo P n ops r ⟨E,H⟩ Q
def og (n:Nat) (o:Oper):Bool→Bool
 |true=>y'B n o
 |false=>match o.guard with|none=>y'B n o|some _=>false
def gd (n:Nat) (ops:Array Oper) (o:Oper):Option (Nat×Bool):=match o.guard with
 |some (j,w)=>match (ops[j]?).bind (·.dst)with
  |some g=>match Nat.blt g n&&y'B n o with
   |true=>some (g,w)
   |false=>none
  |none=>none
 |none=>none
theorem Zl5 {n:Nat} {ops:Array Oper} {o:Oper} {g:Nat} {w:Bool} (h:gd n ops o=some (g,w)): ∃j,o.guard=some (j,w)∧(ops[j]?).bind (·.dst)=some g∧Nat.blt g n=true∧y'B n o=true:=by
 unfold gd at h
 split at h
 ·rename_i j w' hg
  split at h
  ·rename_i g' hj
   split at h
   ·rename_i hb
    rw[z'q,Prod.mk.injEq]at h
    obtain⟨rfl,rfl⟩:=h
    rw[z'b]at hb
    exact⟨j,hg,hj,hb⟩
   ·cases h
  ·cases h
 ·cases h
section
variable {P : Program} (T : Tab P) {n : Nat} {ops : Array Oper} {o : Oper} {r : List Oper} {E : Nat → D} {H : Heap} {Q : Exit → St → Prop} {b : Bool}
theorem vo (h:VCo P n ops r ⟨E,H⟩ Q):VO P n ops false r Q E H:=by unfold VO;exact h
theorem ov (h:VO P n ops false r Q E H):VCo P n ops r ⟨E,H⟩ Q:=by unfold VO at h;exact h
theorem vt (h0:og n o b=true) (h: ∀K:(Nat→D)→Heap→Prop,(∀E H,VO P n ops false r Q E H→K E H)→Op1 P o (evD E) H (fun d H'=>K (updO E o.dst d) H')):VO P n ops b (o::r) Q E H:=by
 have key: ∀K:St→Prop,(∀s,VCo P n ops r s Q→K s)→Op1 P o (evD E) H (fun d H'=>K ⟨updO E o.dst d,H'⟩):=fun K hK=>h (fun E H=>K ⟨E,H⟩) fun E H hv=>hK _ (ov hv)
 cases b with
 |true=>unfold VO;exact VCr.run h0 key
 |false=>
  simp only[og]at h0
  split at h0
  ·rename_i hg;exact vo (VCo.cons hg h0 key)
  ·cases h0
theorem vs (h0:og n o b=true) (h: ∀K:(Nat→D)→Heap→Prop,(∀E H,VO P n ops false r Q E H→K E H)→opC T o (evD E) H (fun d H'=>K (updO E o.dst d) H')):VO P n ops b (o::r) Q E H:=vt h0 fun K hK=>x'L T (h K hK)
theorem nl (h:Q .normal ⟨E,H⟩):VO P n ops false [] Q E H:=vo (VCo.nil h)
theorem gs {g:Nat} {want t:Bool} (hg:gd n ops o=some (g,want)) (ht:E g= .is (.bool t))
  (h:x'y t fun t'=>match sameB t' want with|true=>VO P n ops true (o::r) Q (upd E g (.is (.bool t'))) H|false=>VO P n ops false r Q (updO (upd E g (.is (.bool t'))) o.dst (.is undef)) H):VO P n ops false (o::r) Q E H:=by
 obtain⟨j,h1,h2,h3,h4⟩:=Zl5 hg
 refine vo (VCo.gstep h1 h2 h3 h4 ht ?_)
 have hr: ∀E',VO P n ops true (o::r) Q E' H→VCr P n ops o r ⟨E',H⟩ Q:=fun E' h=>by unfold VO at h;exact h
 cases t<;>cases want<;>first|exact hr _ h|exact ov h
end
theorem gt {t:Bool} {F:Bool→Prop} (e:t=true) (h:F true):x'y t F:=by subst e;exact h
def ngQ (Q:Exit→St→Prop):Exit→St→Prop
 | .goto _,_=>False
 |e,s=>Q e s
theorem VC.scope {P:Program} {n:Nat} {Q:Exit→St→Prop} {s:St} {c:Code} (h:VC P n c s (ngQ Q)):VC P n (.scope c) s Q:=fun x a w hn hs=>by
 refine wp_scope_straight (wp_mono (h x a w hn hs) ?_)
 rintro e a' w' ⟨s',hq,hr⟩
 cases e with
 |goto l=>exact hq.elim
 |_=>exact⟨s',hq,hr⟩
def Zox:Code→Bool
 | .region _ _ false| .seq _ _| .block _ _| .skip| .ret| .exit _| .scope _| .label _=>true
 |_=>false
def stp (P:Program) (n:Nat) (Q:Exit→St→Prop) (E:Nat→D) (H:Heap):Code→Prop
 | .region _ ops _=>VO P n ops false ops.toList Q E H
 | .seq a b=>VC P n a ⟨E,H⟩ (ZfK (fun s=>VC P n b s Q) Q)
 | .block id c=>VC P n c ⟨E,H⟩ (Zbe id Q)
 | .skip=>Q .normal ⟨E,H⟩
 | .ret=>Q .ret ⟨E,H⟩
 | .exit i=>Q (.exit i) ⟨E,H⟩
 | .scope c=>VC P n c ⟨E,H⟩ (ngQ Q)
 | .label _=>Q .normal ⟨E,H⟩
 |_=>False
theorem st {P:Program} {n:Nat} {Q:Exit→St→Prop} {E:Nat→D} {H:Heap} {c:Code} (h0:Zox c=true) (h:stp P n Q E H c):VC P n c ⟨E,H⟩ Q:=by
 cases c with
 |region id ops d=>cases d with
  |false=>exact VC.region (l:=ops.toList) (ov h)
  |true=>cases h0
 |seq a b=>exact VC.seq' h
 |block id c=>exact VC.block h
 |skip=>exact VC.skip h
 |ret=>exact VC.ret h
 |exit i=>exact VC.exit h
 |scope c=>exact VC.scope h
 |label l=>exact VC.label h
 |_=>cases h0
theorem sc {P:Program} {n:Nat} {Q:Exit→St→Prop} {E:Nat→D} {H:Heap} {c:Operand} {x y:Code} {t:Bool} (hc:evD E c= .is (.bool t)) (h:x'y t fun t=>VC P n (match t with|true=>x|false=>y) ⟨E,H⟩ Q):VC P n (.cond c x y) ⟨E,H⟩ Q:=VC.cond hc h
theorem gn {P:Program} {T:Tab P} {ops:Array Oper} {H:Heap} {K:(Nat→D)→Heap→Prop} {E:Nat→D} {l:List Oper} (h:K E H):VCg T ops H (fun E' news=>Za4 news E' H K) 0 l E []:=h
theorem dr {P:Program} (T:Tab P) {n id:Nat} {ops:Array Oper} {E:Nat→D} {H:Heap} {Q:Exit→St→Prop} (f:Nat) (hB:(x'I ops f&&P.follows .mixedOrders&&ops.toList.all (y'B n))=true)
  (h:VCg T ops H (fun E' news=>Za4 news E' H fun E'' H''=>VO P n ops false (ops.toList.drop f) Q E'' H'') f ops.toList E []):VC P n (.region id ops true) ⟨E,H⟩ Q:=by
 have hB':=hB
 simp only[z'b]at hB'
 have e:(fun E'' H''=>VO P n ops false (ops.toList.drop f) Q E'' H'')=(fun E'' H''=>VCo P n ops (ops.toList.drop f) ⟨E'',H''⟩ Q):=by funext d H';exact propext ⟨ov,vo⟩
 rw[e]at h
 exact VC.draw T (l:=ops.toList) f hB'.1.1 hB'.1.2 hB'.2 h
theorem w64 {n:Int} (h: -9223372036854775808≤n∧n≤9223372036854775807):IntKind.i64.wrap n=n:=by rw[IntKind.wrap_i64];omega
theorem exF {α:Type} {p q:α→Prop} {d:α} (h1:p d) (h2:q d): ∃d,p d∧q d:=⟨d,h1,h2⟩
abbrev iD (n:Int):D:= .is (.int .i64 n)
abbrev bD (b:Bool):D:= .is (.bool b)
abbrev sD (s:ByteArray):D:= .is (.string s)
mutual
def Fz (H:Heap):D→D→Prop
 | .sl full esz rows,d=>d= .sl full esz rows∨(full=false∧((∃f,d= .sl f esz rows)∨(rows=[]∧d= .gs none 0)∨
   ∃b o n cap,(d= .gs (some (b,cap)) n∧o=0∨d= .os b o n cap)∧n=rows.length∧ ∃e k l,(b,HC.cells e k l)∈H∧FzR H esz rows (l.drop o)))
 | .pt row,d=>d= .pt row∨ ∃b o e k l,d= .is (.pointer (some ⟨b,o,none⟩))∧(b,HC.cells e k l)∈H∧FzC H row (l.drop o)
 | .agg l',d=> ∃l,d= .agg l∧FzL H l' l
 | .tup l',d=> ∃l,d= .tup l∧FzL H l' l
 | .ifc t x',d=> ∃x,d= .ifc t x∧Fz H x' x
 | .is v,d=>d= .is v
 | .gs g n,d=>d= .gs g n
 | .os b o n cap,d=>d= .os b o n cap
 | .any,d=>d= .any
termination_by structural d=>d
def FzL (H:Heap):List D→List D→Prop
 |[],l=>l=[]
 |d'::ds',l=> ∃d ds,l=d::ds∧Fz H d' d∧FzL H ds' ds
def FzC (H:Heap):List D→List D→Prop
 |[],_=>True
 |d'::ds',l=> ∃d ds,l=d::ds∧Fz H d' d∧FzC H ds' ds
def FzR (H:Heap) (esz:Nat):List (List D)→List D→Prop
 |[],_=>True
 |r::rs,l=>r.length=esz∧FzC H r l∧FzR H esz rs (l.drop esz)
end
mutual
theorem Fz.refl (H:Heap): ∀d,Fz H d d
 | .sl .. => .inl rfl
 | .pt _=> .inl rfl
 | .agg l=>⟨l,rfl,FzL.refl H l⟩
 | .tup l=>⟨l,rfl,FzL.refl H l⟩
 | .ifc t x=>⟨x,rfl,Fz.refl H x⟩
 | .is _=>rfl
 | .gs .. =>rfl
 | .os .. =>rfl
 | .any=>rfl
theorem FzL.refl (H:Heap): ∀l,FzL H l l
 |[]=>rfl
 |d::ds=>⟨d,ds,rfl,Fz.refl H d,FzL.refl H ds⟩
end
theorem FzC.refl (H:Heap): ∀(l r:List D),FzC H l (l++r)
 |[],_=>trivial
 |d::ds,r=>⟨d,ds++r,rfl,Fz.refl H d,FzC.refl H ds r⟩
theorem FzR.refl (H:Heap) {esz:Nat}: ∀(rows:List (List D)),(∀r,r∈rows→r.length=esz)→FzR H esz rows rows.flatten
 |[],_=>trivial
 |r::rs,h=>by
  have h1:=h r (z'k ..)
  refine⟨h1,?_,?_⟩
  ·rw[z'W];exact FzC.refl H r _
  ·rw[z'W,List.drop_left' h1];exact FzR.refl H rs fun r hr=>h r (z'n _ hr)
theorem Fz.one {H:Heap} {d' d:D} (h:Fz H d' d) (h1:oneD d=true):oneD d'=true:=by
 cases d' with
 |sl=>rfl
 |pt=>rfl
 |agg l'=>obtain⟨l,rfl,_⟩:=h;cases h1
 |tup l'=>obtain⟨l,rfl,_⟩:=h;cases h1
 |ifc t x'=>rfl
 |is v=>obtain rfl:d= .is v:=h;exact h1
 |gs g n=>rfl
 |os=>rfl
 |any=>obtain rfl:d= .any:=h;exact h1
theorem FzL.one {H:Heap}: ∀{ds' ds:List D},FzL H ds' ds→ds.all oneD=true→ds'.all oneD=true
 |[],_,_,_=>rfl
 |d'::ds',l,h,h1=>by
  obtain⟨d,ds,rfl,h2,h3⟩:=h
  rw[y'b,z'b]at h1
  rw[y'b,h2.one h1.1,h3.one h1.2];rfl
structure Zcd (w:World) (L0:Nat→Prop) (H H1:Heap) (L:Nat→Prop):Prop where
 inv:HInv w L0 H
 sub: ∀b c,(b,c)∈H1→(b,c)∈H∧ ¬L b
 less: ∀b,b<w.heap.size→L b→live H L0 b
mutual
theorem Rel.fz {w:World} {L0 L:Nat→Prop} {H H1:Heap} (k:Zcd w L0 H H1 L): ∀(d' d:D) (v:Value),Fz H1 d' d→Rel w (live H L0) d v→Rel w L d' v
 | .sl full esz rows,d,v,h,r=>by
  rcases h with rfl|⟨rfl,h⟩
  ·exact Rel.mono (Keeps.less k.less) _ _ r
  rcases h with⟨f,rfl⟩|⟨rfl,rfl⟩|⟨b,o,n,cap,hd,rfl,e,kk,l,hm,hr⟩
  ·have r':=Rel.mono (Keeps.less k.less) _ _ r
   obtain⟨a,cap,h1,h2,_,h3⟩:=r'
   exact⟨a,cap,h1,h2,fun h=>(by cases h),h3⟩
  ·obtain⟨rfl,_⟩:=r
   exact⟨none,0,rfl,⟨z'c _,fun _=>rfl⟩,fun h=>(by cases h),.inl rfl⟩
  ·obtain⟨hmH,hL⟩:=k.sub _ _ hm
   have hc:=k.inv.rel b _ hmH
   have hone:=hc.1
   obtain⟨cs,hcs,hcell⟩:=HRel.cells hc
   have hrows:RowsAt w L esz rows b o:=RowsAt.fz k esz hL rows _ (cs.drop o) o hr (w'o hone _) (RelL.drop o _ _ hcs) (fun j u hj=>hcell _ _ (by rw[z'7]at hj;exact hj))
   rcases hd with⟨rfl,rfl⟩|rfl
   ·obtain⟨rfl,hg⟩:=r
    exact⟨some ⟨b,0,none⟩,cap,rfl,⟨hg,fun h=>(by cases h)⟩,fun h=>(by cases h),.inr ⟨b,0,rfl,hrows⟩⟩
   ·obtain⟨o',rfl,hg,ho⟩:=r
    by_cases h0:rows.length=0
    ·exact⟨some ⟨b,o',none⟩,cap,rfl,⟨hg,fun h=>(by cases h)⟩,fun h=>(by cases h),.inl (z'M h0)⟩
    ·obtain rfl:=ho (by omega)
     exact⟨some ⟨b,o',none⟩,cap,rfl,⟨hg,fun h=>(by cases h)⟩,fun h=>(by cases h),.inr ⟨b,o',rfl,hrows⟩⟩
 | .pt row,d,v,h,r=>by
  rcases h with rfl|⟨b,o,e,kk,l,rfl,hm,hr⟩
  ·exact Rel.mono (Keeps.less k.less) _ _ r
  ·obtain⟨hmH,hL⟩:=k.sub _ _ hm
   have hc:=k.inv.rel b _ hmH
   have hone:=hc.1
   obtain⟨cs,hcs,hcell⟩:=HRel.cells hc
   obtain rfl:v= .pointer (some ⟨b,o,none⟩):=r
   exact⟨b,o,rfl,CellsAt.fz k hL row _ (cs.drop o) o hr (w'o hone _) (RelL.drop o _ _ hcs) (fun j u hj=>hcell _ _ (by rw[z'7]at hj;exact hj))⟩
 | .agg l',d,v,h,r=>by
  obtain⟨l,rfl,h⟩:=h
  obtain⟨h1,cs,rfl,hr⟩:=r
  exact⟨FzL.one h h1,cs,rfl,RelL.fz k l' l _ h hr⟩
 | .tup l',d,v,h,r=>by
  obtain⟨l,rfl,h⟩:=h
  obtain⟨cs,rfl,hr⟩:=r
  exact⟨cs,rfl,RelL.fz k l' l _ h hr⟩
 | .ifc t x',d,v,h,r=>by
  obtain⟨x,rfl,h⟩:=h
  obtain⟨y,rfl,hr⟩:=r
  exact⟨y,rfl,Rel.fz k x' x y h hr⟩
 | .is u,d,v,h,r=>by obtain rfl:d= .is u:=h;exact r
 | .gs g n,d,v,h,r=>by obtain rfl:d= .gs g n:=h;exact r
 | .os b o n cap,d,v,h,r=>by obtain rfl:d= .os b o n cap:=h;exact r
 | .any,d,v,h,r=>trivial
theorem RelL.fz {w:World} {L0 L:Nat→Prop} {H H1:Heap} (k:Zcd w L0 H H1 L): ∀(l' l:List D) (vs:List Value),FzL H1 l' l→RelL w (live H L0) l vs→RelL w L l' vs
 |[],l,vs,h,r=>by obtain rfl:l=[]:=h;exact r
 |d'::ds',l,vs,h,r=>by
  obtain⟨d,ds,rfl,h1,h2⟩:=h
  obtain⟨v,rest,rfl,r1,r2⟩:=r
  exact⟨v,rest,rfl,Rel.fz k d' d v h1 r1,RelL.fz k ds' ds rest h2 r2⟩
theorem CellsAt.fz {w:World} {L0 L:Nat→Prop} {H H1:Heap} {b:Nat} (k:Zcd w L0 H H1 L) (hL: ¬L b): ∀(l' l:List D) (vs:List Value) (o:Nat),FzC H1 l' l→l.all oneD=true→RelL w (live H L0) l vs→
  (∀(j:Nat) v,vs[j]?=some v→w.cell? ⟨b,o+j,none⟩=some v)→CellsAt w L l' b o
 |[],_,_,_,_,_,_,_=>trivial
 |d'::ds',l,vs,o,h,ha,r,hc=>by
  obtain⟨d,ds,rfl,h1,h2⟩:=h
  obtain⟨v,rest,rfl,r1,r2⟩:=r
  rw[y'b,z'b]at ha
  refine⟨hL,⟨h1.one ha.1,v,by simpa using hc 0 v rfl,Rel.fz k d' d v h1 r1⟩,CellsAt.fz k hL ds' ds rest (o+1) h2 ha.2 r2 fun j u hj=>?_⟩
  have:=hc (j+1) u (by simpa using hj)
  rwa [show o+(j+1)=o+1+j by omega]at this
theorem RowsAt.fz {w:World} {L0 L:Nat→Prop} {H H1:Heap} {b:Nat} (k:Zcd w L0 H H1 L) (esz:Nat) (hL: ¬L b): ∀(rows:List (List D)) (l:List D) (vs:List Value) (o:Nat),FzR H1 esz rows l→l.all oneD=true→RelL w (live H L0) l vs→
  (∀(j:Nat) v,vs[j]?=some v→w.cell? ⟨b,o+j,none⟩=some v)→RowsAt w L esz rows b o
 |[],_,_,_,_,_,_,_=>trivial
 |r::rs,l,vs,o,h,ha,hr,hc=>by
  obtain⟨h1,h2,h3⟩:=h
  refine⟨h1,CellsAt.fz k hL r l vs o h2 ha hr hc,RowsAt.fz k esz hL rs (l.drop esz) (vs.drop esz) (o+esz) h3 (w'o ha _) (RelL.drop esz _ _ hr) fun j u hj=>?_⟩
  rw[z'7]at hj
  have:=hc _ u hj
  rwa [show o+(esz+j)=o+esz+j by omega]at this
end
theorem Fun.fz {P:Program} {f:FuncId} {args:List D} {d0:D} (h:Fun P f args [] false (fun d H'=>Fz H' d0 d)):Pure P f args d0:=by
 refine⟨h.1,fun w L0 vs hi hv=>(h.2 w L0 vs hi hv).mono fun ee w' ⟨v,he,d,H',hd,h2,h3,h4⟩=>?_⟩
 refine⟨v,he,d0,[],⟨rfl,rfl⟩,?_,SubH.inv (z'T _) h3,SubH.evo (z'T _) h4⟩
 have hl: ∀b,live [] (fun b=>L0 b∨(false=true∧b<w.heap.size∧b∉Heap.blocks [])) b→L0 b:=fun b hl=>by
  rcases hl with(hl|hl)|hl
  ·exact hl
  ·cases hl.1
  ·simp[Heap.blocks]at hl
 have h2':Rel w' (live H' L0) d v:=Rel.mono (Keeps.less fun b _ hl=>by
  rcases hl with hl|hl
  ·exact .inl (.inl hl)
  ·exact .inr hl) _ _ h2
 refine Rel.fz ⟨h3,fun b c hm=>⟨hm,fun hl'=>?_⟩,fun b _ hl'=> .inl (hl b hl')⟩ d0 d v hd h2'
 exact h3.apart b (z'o.2 ⟨_,hm,rfl⟩) (hl b hl')
theorem Weak.fz {env:Nat→D} {H H1 H':Heap} {t:Nat} {d':D} (hd:Fz H1 d' (env t)) (h1: ∀b c,(b,c)∈H1→(b,c)∈H∧b∉H'.blocks) (hs:H'.Sublist H):
  Weak ⟨env,H⟩ ⟨upd env t d',H'⟩:=fun x a w h=>
 {env:=fun u=>by
   simp only[upd]
   by_cases e:t=u
   ·subst e
    rw[beq_self_eq_true,cond_true]
    refine Rel.fz ⟨h.inv,fun b c hm=>⟨(h1 b c hm).1,fun hl=>?_⟩,fun b _ hl=>hl.imp id (SubH.blocks hs b)⟩ _ _ _ hd (h.env t)
    rcases hl with hl|hl
    ·exact h.inv.apart b (z'o.2 ⟨_,(h1 b c hm).1,rfl⟩) hl
    ·exact(h1 b c hm).2 hl
   ·have:(t == u)=false:=by simpa using e
    rw[this,cond_false]
    exact Rel.mono (SubH.live hs w x.L0) _ _ (h.env u)
  inv:=SubH.inv hs h.inv,evo:=SubH.evo hs h.evo,defers:=h.defers,size:=h.size}
def plainD:D→Bool
 | .is _=>true
 |_=>false
def Zeg:D→Bool
 | .is _=>true
 | .agg l| .tup l=>l.all plainD
 |_=>false
theorem Rel.plainD {w w':World} {L L':Nat→Prop} {d:D} {v:Value} (h:plainD d=true) (r:Rel w L d v):Rel w' L' d v:=by
 cases d<;>first|exact r|cases h
theorem RelL.plain {w w':World} {L L':Nat→Prop}: ∀(l:List D) (vs:List Value),l.all Vc.plainD=true→RelL w L l vs→RelL w' L' l vs
 |[],vs,_,r=>r
 |d::ds,vs,h,r=>by
  obtain⟨v,rest,rfl,r1,r2⟩:=r
  rw[y'b,z'b]at h
  exact⟨v,rest,rfl,Rel.plainD h.1 r1,RelL.plain ds rest h.2 r2⟩
theorem Rel.plain {w w':World} {L L':Nat→Prop} {d:D} {v:Value} (h:Zeg d=true) (r:Rel w L d v):Rel w' L' d v:=by
 cases d with
 |is u=>exact r
 |agg l=>obtain⟨h1,cs,rfl,hr⟩:=r;exact⟨h1,cs,rfl,RelL.plain _ _ h hr⟩
 |tup l=>obtain⟨cs,rfl,hr⟩:=r;exact⟨cs,rfl,RelL.plain _ _ h hr⟩
 |_=>cases h
theorem Weak.perm {env:Nat→D} {H H':Heap} (h:H.Perm H'):Weak ⟨env,H⟩ ⟨env,H'⟩:=fun x a w hs=>
 {env:=fun t=>by rw[v'a h];exact hs.env t
  inv:=hs.inv.perm h,evo:=hs.evo.perm (.refl _) h,defers:=hs.defers,size:=hs.size}
end Go.Vc
