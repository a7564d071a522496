/- The abstract data of a walk: descriptors of values, and what they say of a world. No condition. -/
import Derived.WalkKit
import Derived.Orders
import Derived.Carry
import Derived.Deep.Slices
import Derived.WideShapes
import Derived.ChangeArms
import Derived.OpenShut
namespace Go.Vc
theorem z'b:type_of% @Bool.and_eq_true:=@Bool.and_eq_true
theorem z'c:type_of% @Nat.le_refl:=@Nat.le_refl
theorem z'd:type_of% @Nat.eq_of_beq_eq_true:=@Nat.eq_of_beq_eq_true
theorem z'e:type_of% @List.getD_eq_getElem?_getD:=@List.getD_eq_getElem?_getD
theorem z'f:type_of% @List.length_map:=@List.length_map
theorem z'g:type_of% @List.map_cons:=@List.map_cons
theorem z'h:type_of% @List.all_eq_true:=@List.all_eq_true
theorem z'i:type_of% @Nat.le_of_ble_eq_true:=@Nat.le_of_ble_eq_true
theorem z'j:type_of% @Classical.byContradiction:=@Classical.byContradiction
theorem z'k:type_of% @List.mem_cons_self:=@List.mem_cons_self
theorem z'l:type_of% @List.getElem?_eq_getElem:=@List.getElem?_eq_getElem
theorem z'm:type_of% @Nat.lt_of_lt_of_le:=@Nat.lt_of_lt_of_le
theorem z'n:type_of% @List.mem_cons_of_mem:=@List.mem_cons_of_mem
theorem z'o:type_of% @List.mem_map:=@List.mem_map
theorem z'p:type_of% @List.mem_cons:=@List.mem_cons
theorem z'q:type_of% @Option.some.injEq:=@Option.some.injEq
theorem z'r:type_of% @List.length_append:=@List.length_append
theorem z's:type_of% @List.getElem?_eq_some_iff:=@List.getElem?_eq_some_iff
theorem z't:type_of% @Nat.lt_or_ge:=@Nat.lt_or_ge
theorem z'w:type_of% @Array.getD_eq_getD_getElem?:=@Array.getD_eq_getD_getElem?
theorem z'x:type_of% @List.append_nil:=@List.append_nil
theorem z'y:type_of% @List.map_append:=@List.map_append
theorem z'z:type_of% @List.length_take:=@List.length_take
theorem z'A:type_of% @List.length_cons:=@List.length_cons
theorem z'B:type_of% @Array.toList_inj:=@Array.toList_inj
theorem z'C:type_of% @Array.length_toList:=@Array.length_toList
theorem z'D:type_of% @Int.toNat_natCast:=@Int.toNat_natCast
theorem z'E:type_of% @Nat.le_trans:=@Nat.le_trans
theorem z'F:type_of% @List.mem_of_getElem?:=@List.mem_of_getElem?
theorem z'G:type_of% @List.filter_append:=@List.filter_append
theorem z'I:type_of% @List.not_mem_nil:=@List.not_mem_nil
theorem z'J:type_of% @List.mem_range:=@List.mem_range
theorem z'K:type_of% @Option.getD_some:=@Option.getD_some
theorem z'L:type_of% @List.nil_append:=@List.nil_append
theorem z'M:type_of% @List.eq_nil_of_length_eq_zero:=@List.eq_nil_of_length_eq_zero
theorem z'O:type_of% @List.take_of_length_le:=@List.take_of_length_le
theorem z'Q:type_of% @Nat.zero_le:=@Nat.zero_le
theorem z'R:type_of% @List.map_congr_left:=@List.map_congr_left
theorem z'T:type_of% @List.nil_sublist:=@List.nil_sublist
theorem z'V:type_of% @List.Sublist.refl:=@List.Sublist.refl
theorem z'W:type_of% @List.flatten_cons:=@List.flatten_cons
theorem z'X:type_of% @List.getElem?_eq_none:=@List.getElem?_eq_none
theorem z'1:type_of% @Nat.eq_or_lt_of_le:=@Nat.eq_or_lt_of_le
theorem z'2:type_of% @Option.some.inj:=@Option.some.inj
theorem z'3:type_of% @Array.getElem?_setIfInBounds_ne:=@Array.getElem?_setIfInBounds_ne
theorem z'5:type_of% @List.mem_append_left:=@List.mem_append_left
theorem z'6:type_of% @List.nodup_append:=@List.nodup_append
theorem z'7:type_of% @List.getElem?_drop:=@List.getElem?_drop
theorem z'9:type_of% @List.range_succ:=@List.range_succ
theorem y'a:type_of% @Option.map_some:=@Option.map_some
theorem y'b:type_of% @List.all_cons:=@List.all_cons
theorem y'c:type_of% @List.getElem?_map:=@List.getElem?_map
theorem y'd:type_of% @Nat.zero_add:=@Nat.zero_add
theorem y'e:type_of% @Array.getElem?_eq_none:=@Array.getElem?_eq_none
theorem y'f:type_of% @List.Perm.refl:=@List.Perm.refl
theorem y'h:type_of% @List.mem_singleton:=@List.mem_singleton
theorem y'i:type_of% @Bool.false_eq_true:=@Bool.false_eq_true
theorem y'j:type_of% @List.mem_append:=@List.mem_append
theorem y'k:type_of% @List.length_drop:=@List.length_drop
theorem y'l:type_of% @Nat.mul_one:=@Nat.mul_one
theorem y'm:type_of% @List.nodup_cons:=@List.nodup_cons
theorem y'n:type_of% @List.getElem?_append_left:=@List.getElem?_append_left
theorem y'o:type_of% @List.map_nil:=@List.map_nil
theorem y'r:type_of% @List.append_assoc:=@List.append_assoc
theorem y's:type_of% @List.mem_append_right:=@List.mem_append_right
theorem y't:type_of% @Option.map_none:=@Option.map_none
theorem y'v:type_of% @List.getElem?_take:=@List.getElem?_take
theorem y'w:type_of% @List.cons_append:=@List.cons_append
theorem y'A:type_of% @Array.mem_toList_iff:=@Array.mem_toList_iff
theorem y'C:type_of% @List.filter_eq_nil_iff:=@List.filter_eq_nil_iff
theorem y'F:type_of% @Nat.add_mul:=@Nat.add_mul
theorem y'K:type_of% @List.getElem?_of_mem:=@List.getElem?_of_mem
theorem y'L:type_of% @List.mem_of_mem_take:=@List.mem_of_mem_take
theorem y'M:type_of% @List.getElem?_set_ne:=@List.getElem?_set_ne
theorem y'N:type_of% @List.countP_eq_length_filter:=@List.countP_eq_length_filter
theorem y'O:type_of% @Bool.or_eq_true:=@Bool.or_eq_true
theorem y'P:type_of% @Nat.not_lt_zero:=@Nat.not_lt_zero
theorem y'Q:type_of% @List.getElem?_cons_zero:=@List.getElem?_cons_zero
theorem y'R:type_of% @List.filter_cons_of_pos:=@List.filter_cons_of_pos
theorem y'S:type_of% @List.replicate_succ:=@List.replicate_succ
theorem y'T:type_of% @List.drop_zero:=@List.drop_zero
theorem y'U:type_of% @List.getElem?_toArray:=@List.getElem?_toArray
theorem y'V:type_of% @List.length_set:=@List.length_set
theorem y'W:type_of% @List.mem_filter:=@List.mem_filter
theorem y'Y:type_of% @Array.getElem?_replicate:=@Array.getElem?_replicate
theorem y'5:type_of% @List.drop_drop:=@List.drop_drop
theorem y'6:type_of% @List.getElem?_cons_succ:=@List.getElem?_cons_succ
theorem y'7:type_of% @Nat.add_zero:=@Nat.add_zero
theorem y'8:type_of% @Nat.beq_refl:=@Nat.beq_refl
theorem x'c:type_of% @List.length_nil:=@List.length_nil
theorem x'j:type_of% @Bool.not_eq_true':=@Bool.not_eq_true'
theorem x'k:type_of% @List.ext_getElem?:=@List.ext_getElem?
theorem x'n:type_of% @List.mapM_cons:=@List.mapM_cons
theorem x'p:type_of% @List.drop_eq_getElem_cons:=@List.drop_eq_getElem_cons
theorem x'r:type_of% @List.filter_cons:=@List.filter_cons
theorem x's:type_of% @List.countP_cons:=@List.countP_cons
theorem x'v:type_of% @Int.not_lt:=@Int.not_lt
theorem x'D:type_of% @List.cons.injEq:=@List.cons.injEq
theorem x'G:type_of% @List.drop_eq_nil_of_le:=@List.drop_eq_nil_of_le
theorem x'R:type_of% @List.length_replicate:=@List.length_replicate
theorem x'S:type_of% @List.take_append_drop:=@List.take_append_drop
theorem x'Y:type_of% @List.getElem?_append:=@List.getElem?_append
theorem w'h:type_of% @List.map_set:=@List.map_set
theorem w'i:type_of% @Nat.zero_mul:=@Nat.zero_mul
theorem w'l:type_of% @List.nodup_nil:=@List.nodup_nil
set_option linter.unusedSimpArgs false
open Go
set_option linter.unusedVariables false
inductive D where
 |is (v:Value)
 |sl (full:Bool) (esz:Nat) (rows:List (List D))
 |pt (row:List D)
 |agg (l:List D)
 |tup (l:List D)
 |ifc (t:TypeId) (d:D)
 |gs (g:Option (Nat×Nat)) (n:Nat)
 |os (b o n cap:Nat)
 |any
 deriving Inhabited
def sv (g:Option (Nat×Nat)) (n:Nat):Value:=
 match g with
 |none=> .slice none 0 0
 |some (b,cap)=> .slice (some ⟨b,0,none⟩) n cap
def gOk (g:Option (Nat×Nat)) (n:Nat):Prop:=
 match g with
 |none=>n=0
 |some (_,cap)=>n≤cap
def oneD:D→Bool
 | .is v=>v.oneCell'
 | .agg _| .tup _| .any=>false
 |_=>true
mutual
def Rel (w:World) (L:Nat→Prop):D→Value→Prop
 | .is u,v=>v=u
 | .sl full esz rows,v=> ∃a cap,v= .slice a rows.length cap∧(rows.length≤cap∧(a=none→cap=0))∧(full=true→cap=rows.length)∧(rows=[]∨ ∃b o,a=some ⟨b,o,none⟩∧RowsAt w L esz rows b o)
 | .pt row,v=> ∃b o,v= .pointer (some ⟨b,o,none⟩)∧CellsAt w L row b o
 | .agg l,v=>l.all oneD=true∧ ∃cs,v= .agg cs∧RelL w L l cs.toList
 | .tup l,v=> ∃cs,v= .tuple cs∧RelL w L l cs.toList
 | .ifc t d,v=> ∃x,v= .iface t x∧Rel w L d x
 | .gs g n,v=>v=sv g n∧gOk g n
 | .os b o n cap,v=> ∃o',v= .slice (some ⟨b,o',none⟩) n cap∧n≤cap∧(cap≠0→o'=o)
 | .any,_=>True
def RelL (w:World) (L:Nat→Prop):List D→List Value→Prop
 |[],vs=>vs=[]
 |d::ds,vs=> ∃v r,vs=v::r∧Rel w L d v∧RelL w L ds r
def CellsAt (w:World) (L:Nat→Prop):List D→Nat→Nat→Prop
 |[],_,_=>True
 |d::ds,b,o=> ¬L b∧(oneD d=true∧ ∃v,w.cell? ⟨b,o,none⟩=some v∧Rel w L d v)∧CellsAt w L ds b (o+1)
def RowsAt (w:World) (L:Nat→Prop) (esz:Nat):List (List D)→Nat→Nat→Prop
 |[],_,_=>True
 |r::rs,b,o=>r.length=esz∧CellsAt w L r b o∧RowsAt w L esz rs b (o+esz)
end
def Keeps (w:World) (L:Nat→Prop) (w':World) (L':Nat→Prop):Prop:=
 ∀b,b<w.heap.size→ ¬L b→w'.heap[b]?=w.heap[b]?∧ ¬L' b
theorem ZlM {w:World} {b o:Nat} {v:Value} (h:w.cell? ⟨b,o,none⟩=some v):b<w.heap.size:=by
 simp only[World.cell?]at h
 rcases z't b w.heap.size with h'|h'
 ·exact h'
 ·simp[y'e h']at h
mutual
theorem Rel.mono {w w':World} {L L':Nat→Prop} (h:Keeps w L w' L'): ∀(d:D) (v:Value),Rel w L d v→Rel w' L' d v
 | .is u,v,r=>r
 | .sl full esz rows,v,r=>by
  obtain⟨a,cap,rfl,hc,hf,hr⟩:=r
  refine⟨a,cap,rfl,hc,hf,?_⟩
  rcases hr with hr|⟨b,o,ha,hr⟩
  ·exact .inl hr
  ·exact .inr ⟨b,o,ha,RowsAt.mono h esz rows b o hr⟩
 | .pt row,v,r=>by
  obtain⟨b,o,rfl,hr⟩:=r
  exact⟨b,o,rfl,CellsAt.mono h row b o hr⟩
 | .agg l,v,r=>by
  obtain⟨h1,cs,rfl,hr⟩:=r
  exact⟨h1,cs,rfl,RelL.mono h l _ hr⟩
 | .tup l,v,r=>by
  obtain⟨cs,rfl,hr⟩:=r
  exact⟨cs,rfl,RelL.mono h l _ hr⟩
 | .ifc t d,v,r=>by
  obtain⟨x,rfl,hr⟩:=r
  exact⟨x,rfl,Rel.mono h d _ hr⟩
 | .gs g n,v,r=>r
 | .os b o n cap,v,r=>r
 | .any,_,_=>trivial
theorem RelL.mono {w w':World} {L L':Nat→Prop} (h:Keeps w L w' L'): ∀(l:List D) (vs:List Value),RelL w L l vs→RelL w' L' l vs
 |[],vs,r=>r
 |d::ds,vs,r=>by
  obtain⟨v,rest,rfl,h1,h2⟩:=r
  exact⟨v,rest,rfl,Rel.mono h d v h1,RelL.mono h ds rest h2⟩
theorem CellsAt.mono {w w':World} {L L':Nat→Prop} (h:Keeps w L w' L'): ∀(l:List D) (b o:Nat),CellsAt w L l b o→CellsAt w' L' l b o
 |[],_,_,_=>trivial
 |d::ds,b,o,r=>by
  obtain⟨hb,⟨h1,v,hv,hr⟩,hs⟩:=r
  obtain⟨k1,k2⟩:=h b (ZlM hv) hb
  exact⟨k2,⟨h1,v,by rw[World.cell?_of_block (a:=⟨b,o,none⟩) k1];exact hv,Rel.mono h d v hr⟩,CellsAt.mono h ds b (o+1) hs⟩
theorem RowsAt.mono {w w':World} {L L':Nat→Prop} (h:Keeps w L w' L') (esz:Nat): ∀(l:List (List D)) (b o:Nat),RowsAt w L esz l b o→RowsAt w' L' esz l b o
 |[],_,_,_=>trivial
 |r::rs,b,o,hh=>by
  obtain⟨h1,h2,h3⟩:=hh
  exact⟨h1,CellsAt.mono h r b o h2,RowsAt.mono h esz rs b (o+esz) h3⟩
end
theorem Keeps.refl (w:World) (L:Nat→Prop):Keeps w L w L:=fun _ _ h=>⟨rfl,h⟩
theorem Keeps.less {w:World} {L L':Nat→Prop} (h: ∀b,b<w.heap.size→L' b→L b):Keeps w L w L':=fun b hb hn=>⟨rfl,fun hl=>hn (h b hb hl)⟩
theorem ZjP {w:World} {L:Nat→Prop} {d:D} {v:Value} (h:oneD d=true) (hr:Rel w L d v):v.oneCell'=true:=by
 cases d with
 |is u=>rw[Rel]at hr;subst hr;exact h
 |sl full esz rows=>rw[Rel]at hr;obtain⟨a,cap,rfl,_⟩:=hr;rfl
 |pt row=>rw[Rel]at hr;obtain⟨b,o,rfl,_⟩:=hr;rfl
 |agg l=>simp[oneD]at h
 |tup l=>simp[oneD]at h
 |ifc t d=>rw[Rel]at hr;obtain⟨x,rfl,_⟩:=hr;rfl
 |gs g n=>rw[Rel]at hr;obtain⟨rfl,_⟩:=hr;cases g<;>rfl
 |os b o n cap=>rw[Rel]at hr;obtain⟨o',rfl,_⟩:=hr;rfl
 |any=>simp[oneD]at h
theorem RelL.one {w:World} {L:Nat→Prop}: ∀(l:List D) (vs:List Value),l.all oneD=true→RelL w L l vs→ ∀v∈vs,v.oneCell'=true
 |[],vs,_,h=>by rw[RelL]at h;subst h;simp
 |d::ds,vs,ho,h=>by
  rw[RelL]at h
  obtain⟨v,r,rfl,h1,h2⟩:=h
  simp only[y'b,z'b]at ho
  intro u hu
  rcases z'p.1 hu with rfl|hu
  ·exact ZjP ho.1 h1
  ·exact RelL.one ds r ho.2 h2 u hu
theorem RelL.length {w:World} {L:Nat→Prop}: ∀(l:List D) (vs:List Value),RelL w L l vs→vs.length=l.length
 |[],vs,h=>by rw[RelL]at h;simp[h]
 |d::ds,vs,h=>by
  rw[RelL]at h
  obtain⟨v,r,rfl,_,h2⟩:=h
  simp[RelL.length ds r h2]
theorem RelL.get {w:World} {L:Nat→Prop}: ∀(l:List D) (vs:List Value),RelL w L l vs→ ∀(i:Nat) d,l[i]?=some d→ ∃v,vs[i]?=some v∧Rel w L d v
 |[],vs,h,i,d,hd=>by simp at hd
 |d0::ds,vs,h,i,d,hd=>by
  rw[RelL]at h
  obtain⟨v,r,rfl,h1,h2⟩:=h
  cases i with
  |zero=>simp at hd;subst hd;exact⟨v,by simp,h1⟩
  |succ i=>
   obtain⟨v',h3,h4⟩:=RelL.get ds r h2 i d (by simpa using hd)
   exact⟨v',by simpa using h3,h4⟩
theorem RelL.append {w:World} {L:Nat→Prop}: ∀(l l':List D) (vs vs':List Value),RelL w L l vs→RelL w L l' vs'→RelL w L (l++l') (vs++vs')
 |[],l',vs,vs',h,h'=>by rw[RelL]at h;subst h;simpa using h'
 |d::ds,l',vs,vs',h,h'=>by
  rw[RelL]at h
  obtain⟨v,r,rfl,h1,h2⟩:=h
  exact⟨v,r++vs',by simp,h1,RelL.append ds l' r vs' h2 h'⟩
theorem RelL.drop {w:World} {L:Nat→Prop}: ∀(n:Nat) (l:List D) (vs:List Value),RelL w L l vs→RelL w L (l.drop n) (vs.drop n)
 |0,l,vs,h=>by simpa using h
 |n+1,[],vs,h=>by rw[RelL]at h;subst h;simp[RelL]
 |n+1,d::ds,vs,h=>by
  rw[RelL]at h
  obtain⟨v,r,rfl,h1,h2⟩:=h
  simpa using RelL.drop n ds r h2
theorem RelL.take {w:World} {L:Nat→Prop}: ∀(n:Nat) (l:List D) (vs:List Value),RelL w L l vs→RelL w L (l.take n) (vs.take n)
 |0,l,vs,h=>by simp[RelL]
 |n+1,[],vs,h=>by rw[RelL]at h;subst h;simp[RelL]
 |n+1,d::ds,vs,h=>by
  rw[RelL]at h
  obtain⟨v,r,rfl,h1,h2⟩:=h
  exact⟨v,r.take n,by simp,h1,RelL.take n ds r h2⟩
theorem RelL.set {w:World} {L:Nat→Prop}: ∀(i:Nat) (l:List D) (vs:List Value) (d:D) (v:Value),RelL w L l vs→Rel w L d v→RelL w L (l.set i d) (vs.set i v)
 |_,[],vs,d,v,h,_=>by rw[RelL]at h;subst h;simp[RelL]
 |0,d0::ds,vs,d,v,h,hv=>by
  rw[RelL]at h
  obtain⟨v0,r,rfl,h1,h2⟩:=h
  exact⟨v,r,by simp,hv,h2⟩
 |i+1,d0::ds,vs,d,v,h,hv=>by
  rw[RelL]at h
  obtain⟨v0,r,rfl,h1,h2⟩:=h
  exact⟨v0,r.set i v,by simp,h1,RelL.set i ds r d v h2 hv⟩
theorem CellsAt.get {w:World} {L:Nat→Prop}: ∀(l:List D) (b o:Nat),CellsAt w L l b o→ ∀(i:Nat) d,l[i]?=some d→ ¬L b∧oneD d=true∧ ∃v,w.cell? ⟨b,o+i,none⟩=some v∧Rel w L d v
 |[],b,o,h,i,d,hd=>by simp at hd
 |d0::ds,b,o,h,i,d,hd=>by
  rw[CellsAt]at h
  obtain⟨hb,hv,h2⟩:=h
  cases i with
  |zero=>simp at hd;subst hd;exact⟨hb,hv⟩
  |succ i=>
   have:=CellsAt.get ds b (o+1) h2 i d (by simpa using hd)
   rwa [show o+1+i=o+(i+1) by omega]at this
theorem CellsAt.drop {w:World} {L:Nat→Prop}: ∀(n:Nat) (l:List D) (b o:Nat),CellsAt w L l b o→CellsAt w L (l.drop n) b (o+n)
 |0,l,b,o,h=>by simpa using h
 |n+1,[],b,o,h=>by simp[CellsAt]
 |n+1,d::ds,b,o,h=>by
  rw[CellsAt]at h
  have:=CellsAt.drop n ds b (o+1) h.2.2
  rw[show o+1+n=o+(n+1) by omega]at this
  simpa using this
theorem CellsAt.take {w:World} {L:Nat→Prop}: ∀(n:Nat) (l:List D) (b o:Nat),CellsAt w L l b o→CellsAt w L (l.take n) b o
 |0,l,b,o,h=>by simp[CellsAt]
 |n+1,[],b,o,h=>by simp[CellsAt]
 |n+1,d::ds,b,o,h=>by
  rw[CellsAt]at h
  exact⟨h.1,h.2.1,CellsAt.take n ds b (o+1) h.2.2⟩
theorem RowsAt.get {w:World} {L:Nat→Prop} {esz:Nat}: ∀(l:List (List D)) (b o:Nat),RowsAt w L esz l b o→ ∀(i:Nat) r,l[i]?=some r→r.length=esz∧CellsAt w L r b (o+i*esz)
 |[],b,o,h,i,r,hr=>by simp at hr
 |r0::rs,b,o,h,i,r,hr=>by
  rw[RowsAt]at h
  obtain⟨h1,h2,h3⟩:=h
  cases i with
  |zero=>simp at hr;subst hr;simpa using⟨h1,h2⟩
  |succ i=>
   have:=RowsAt.get rs b (o+esz) h3 i r (by simpa using hr)
   rwa [show o+esz+i*esz=o+(i+1)*esz by rw[y'F];omega]at this
theorem RowsAt.drop {w:World} {L:Nat→Prop} {esz:Nat}: ∀(n:Nat) (l:List (List D)) (b o:Nat),RowsAt w L esz l b o→RowsAt w L esz (l.drop n) b (o+n*esz)
 |0,l,b,o,h=>by simpa using h
 |n+1,[],b,o,h=>by simp[RowsAt]
 |n+1,r::rs,b,o,h=>by
  rw[RowsAt]at h
  have:=RowsAt.drop n rs b (o+esz) h.2.2
  rw[show o+esz+n*esz=o+(n+1)*esz by rw[y'F];omega]at this
  simpa using this
theorem RowsAt.take {w:World} {L:Nat→Prop} {esz:Nat}: ∀(n:Nat) (l:List (List D)) (b o:Nat),RowsAt w L esz l b o→RowsAt w L esz (l.take n) b o
 |0,l,b,o,h=>by simp[RowsAt]
 |n+1,[],b,o,h=>by simp[RowsAt]
 |n+1,r::rs,b,o,h=>by
  rw[RowsAt]at h
  exact⟨h.1,h.2.1,RowsAt.take n rs b (o+esz) h.2.2⟩
inductive HC where
 |cells (ty:TypeId) (n:Nat) (l:List D)
 |iter (s:ByteArray) (pos:Nat)
 |obj (o:Obj)
def HRel (w:World) (L:Nat→Prop) (b:Nat):HC→Prop
 | .cells ty n l=>l.all oneD=true∧ ∃arr,w.heap[b]?=some (.cells arr ty (0,0))∧arr.size=n∧RelL w L l (arr.toList.take l.length)
 | .iter s pos=>w.heap[b]?=some (.stringIter s pos)
 | .obj o=>w.heap[b]?=some o
abbrev Heap:=List (Nat×HC)
def Heap.blocks (H:Heap):List Nat:=H.map (·.1)
def live (H:Heap) (L0:Nat→Prop):Nat→Prop:=fun b=>L0 b∨b∈H.blocks
structure HInv (w:World) (L0:Nat→Prop) (H:Heap):Prop where
 rel: ∀b c,(b,c)∈H→HRel w (live H L0) b c
 nodup:H.blocks.Nodup
 apart: ∀b,b∈H.blocks→ ¬L0 b
 old: ∀b,L0 b→b<w.heap.size
structure Evo (w:World) (H:Heap) (w':World) (H':Heap):Prop where
 os:w'.os=w.os
 tape:w'.tape=w.tape
 output:w'.output=w.output
 size:w.heap.size≤w'.heap.size
 block: ∀b,b<w.heap.size→b∉H.blocks→w'.heap[b]?=w.heap[b]?
 fresh: ∀b,b∈H'.blocks→b∈H.blocks∨w.heap.size≤b
theorem Evo.refl (w:World) (H:Heap):Evo w H w H:=⟨rfl,rfl,rfl,z'c _,fun _ _ _=>rfl,fun _ h=> .inl h⟩
theorem Evo.trans {w w' w'':World} {H H' H'':Heap} (h:Evo w H w' H') (k:Evo w' H' w'' H''):Evo w H w'' H'' where
 os:=k.os.trans h.os
 tape:=k.tape.trans h.tape
 output:=k.output.trans h.output
 size:=z'E h.size k.size
 block b hb hn:=by
  rw[k.block b (z'm hb h.size) (fun hm=>by rcases h.fresh b hm with h1|h1;exact hn h1;omega),h.block b hb hn]
 fresh b hb:=by
  rcases k.fresh b hb with h1|h1
  ·exact h.fresh b h1
  ·exact .inr (z'E h.size h1)
theorem Evo.keeps {w w':World} {H H':Heap} {L0:Nat→Prop} (h:Evo w H w' H'):Keeps w (live H L0) w' (live H' L0):=fun b hb hn=>
 ⟨h.block b hb (fun hm=>hn (.inr hm)),fun hl=>by
  rcases hl with hl|hl
  ·exact hn (.inl hl)
  ·rcases h.fresh b hl with h1|h1
   ·exact hn (.inr h1)
   ·omega⟩
def x'K:List (Nat×D)→Nat→D
 |[],_=> .any
 |(k,d)::r,t=>bif k == t then d else x'K r t
def upd (E:Nat→D) (k:Nat) (d:D):Nat→D:=fun t=>bif k == t then d else E t
def updO (E:Nat→D) (dst:Option Tmp) (d:D):Nat→D:=match dst with|some k=>upd E k d|none=>E
structure St where
 env:Nat→D
 heap:Heap
def St.put (s:St) (dst:Option Tmp) (d:D) (H:Heap):St:=⟨updO s.env dst d,H⟩
structure Ctx where
 w0:World
 L0:Nat→Prop
 H0:Heap
 n:Nat
 ds:List Deferred:=[]
structure SRel (c:Ctx) (s:St) (a:Act) (w:World):Prop where
 env: ∀t,Rel w (live s.heap c.L0) (s.env t) (a.tmps.getD t undef)
 inv:HInv w c.L0 s.heap
 evo:Evo c.w0 c.H0 w s.heap
 defers:a.defers=c.ds
 size:a.tmps.size=c.n
theorem SRel.put {c:Ctx} {s:St} {a:Act} {w w':World} {H':Heap} (h:SRel c s a w) {dst:Option Tmp} {d:D} {v:Value} (hd: ∀t,dst=some t→t<c.n)
  (hv:Rel w' (live H' c.L0) d v) (hi:HInv w' c.L0 H') (he:Evo w s.heap w' H'):SRel c (s.put dst d H') (a.put dst v) w' where
 env t:=by
  have old:Rel w' (live H' c.L0) (s.env t) (a.tmps.getD t undef):=Rel.mono he.keeps _ _ (h.env t)
  cases dst with
  |none=>exact old
  |some k=>
   have hk:=hd k rfl
   simp only[St.put,updO,upd,Act.put]
   by_cases e:k=t
   ·subst e
    simp[Array.getD,h.size,hk,hv]
   ·have:(k == t)=false:=by simpa using e
    rw[this]
    simpa[z'w,z'3 e]using old
 inv:=by cases dst<;>exact hi
 evo:=by cases dst<;>exact h.evo.trans he
 defers:=by cases dst<;>exact h.defers
 size:=by cases dst<;>simp[Act.put,h.size]
def Good (P:Program) (R:Value→World→Prop):Result Next→Prop
 | .ok (.value v) w=>R v w
 | .ok .skip w=>R undef w
 | .ok (.enter f args) w=>Calls P f args w fun e w'=> ∃v,e= .returned v∧R v w'
 |_=>False
theorem Good.upon {P:Program} {R:Value→World→Prop} {r:Result Next} (h:Good P R r) {o:Oper} {a:Act} {K:Act→World→Prop} {Q:Exit→Act→World→Prop}
  (hk: ∀v w,R v w→K (a.put o.dst v) w):o.upon P a K Q r:=by
 cases r with
 |ok n w=>
  cases n<;>simp only[Good]at h<;>simp only[Oper.upon]
  case value v=>exact hk _ _ h
  case skip=>exact hk _ _ h
  case enter f args=>
   refine h.mono fun e w' ⟨v,he,hr⟩=>?_
   subst he
   exact hk _ _ hr
 |halt x w=>exact h.elim
def constD:Value→D
 | .slice none 0 0=> .gs none 0
 |v=> .is v
theorem v'd (w:World) (L:Nat→Prop) (v:Value):Rel w L (constD v) v:=by
 unfold constD
 split
 ·exact⟨rfl,rfl⟩
 ·rfl
def evD (env:Nat→D):Operand→D
 | .tmp t=>env t
 | .const v=>constD v
 | .global g=> .is (.pointer (some ⟨g,0,none⟩))
 | .func f=> .is (.func (.func f) #[] #[])
theorem SRel.ev {c:Ctx} {s:St} {a:Act} {w:World} (h:SRel c s a w) (x:Operand):Rel w (live s.heap c.L0) (evD s.env x) (a.eval x):=by
 cases x with
 |tmp t=>exact h.env t
 |const v=>exact v'd _ _ v
 |global g=>rfl
 |func f=>rfl
def OpS (P:Program) (o:Oper) (E:Operand→D) (H:Heap) (Φ:D→Heap→Prop):Prop:=
 ∀(w:World) (L0:Nat→Prop) (ε:Operand→Value),HInv w L0 H→(∀x,x∈o.op.operands→Rel w (live H L0) (E x) (ε x))→
  Good P (fun v w'=> ∃d H',Φ d H'∧Rel w' (live H' L0) d v∧HInv w' L0 H'∧Evo w H w' H') ((execOp ε o).run P w)
def Op1 (P:Program) (o:Oper) (E:Operand→D) (H:Heap) (K:D→Heap→Prop):Prop:= ∃Φ,OpS P o E H Φ∧ ∀d H',Φ d H'→K d H'
theorem OpS.mono {P:Program} {o:Oper} {E:Operand→D} {H:Heap} {Φ Ψ:D→Heap→Prop} (h:OpS P o E H Φ) (hk: ∀d H',Φ d H'→Ψ d H'):OpS P o E H Ψ:=by
 intro w L0 ε hi hx
 have:=h w L0 ε hi hx
 generalize (execOp ε o).run P w=r at*
 have key: ∀v w',(∃d H',Φ d H'∧Rel w' (live H' L0) d v∧HInv w' L0 H'∧Evo w H w' H')→(∃d H',Ψ d H'∧Rel w' (live H' L0) d v∧HInv w' L0 H'∧Evo w H w' H'):=
  fun v w' ⟨d,H',h1,h2⟩=>⟨d,H',hk _ _ h1,h2⟩
 cases r with
 |ok n w1=>
  cases n<;>simp only[Good]at this⊢
  case value v=>exact key _ _ this
  case skip=>exact key _ _ this
  case enter f args=>exact this.mono fun e w' ⟨v,he,hr⟩=>⟨v,he,key _ _ hr⟩
 |halt x w1=>exact this
theorem OpS.value {P:Program} {o:Oper} {E:Operand→D} {H:Heap} {d:D}
  (h: ∀(w:World) (L0:Nat→Prop) (ε:Operand→Value),HInv w L0 H→(∀x,x∈o.op.operands→Rel w (live H L0) (E x) (ε x))→ ∃v,(execOp ε o).run P w= .ok (.value v) w∧Rel w (live H L0) d v):
  OpS P o E H (fun d' H'=>d'=d∧H'=H):=by
 intro w L0 ε hi hx
 obtain⟨v,hr,hv⟩:=h w L0 ε hi hx
 rw[hr]
 exact⟨d,H,⟨rfl,rfl⟩,hv,hi,Evo.refl _ _⟩
def VC (P:Program) (n:Nat) (c:Code) (s:St) (Q:Exit→St→Prop):Prop:=
 ∀(x:Ctx) (a:Act) (w:World),x.n=n→SRel x s a w→c.wp P (fun e a' w'=> ∃s',Q e s'∧SRel x s' a' w') a w
def ZfK (K:St→Prop) (Q:Exit→St→Prop):Exit→St→Prop
 | .normal,s=>K s
 |e,s=>Q e s
def Zbe (id:Nat) (Q:Exit→St→Prop):Exit→St→Prop
 | .exit i,s=>bif i == id then Q .normal s else Q (.exit i) s
 |e,s=>Q e s
section
variable {P : Program} {n : Nat} {s : St} {Q : Exit → St → Prop}
theorem VC.mono {c:Code} {Q':Exit→St→Prop} (h:VC P n c s Q) (hq: ∀e s,Q e s→Q' e s):VC P n c s Q':=fun x a w hn hs=>
 wp_mono (h x a w hn hs) fun e a w ⟨s',h1,h2⟩=>⟨s',hq _ _ h1,h2⟩
theorem VC.skip (h:Q .normal s):VC P n .skip s Q:=fun x a w hn hs=>wp_skip ⟨s,h,hs⟩
theorem VC.label {l:Nat} (h:Q .normal s):VC P n (.label l) s Q:=fun x a w hn hs=>wp_label ⟨s,h,hs⟩
theorem VC.exit {id:Nat} (h:Q (.exit id) s):VC P n (.exit id) s Q:=fun x a w hn hs=>wp_exit ⟨s,h,hs⟩
theorem VC.goto {id:Nat} (h:Q (.goto id) s):VC P n (.goto id) s Q:=fun x a w hn hs=>wp_goto ⟨s,h,hs⟩
theorem VC.ret (h:Q .ret s):VC P n .ret s Q:=fun x a w hn hs=>wp_ret ⟨s,h,hs⟩
theorem VC.seq {a b:Code} (h: ∀K:St→Prop,(∀s,VC P n b s Q→K s)→VC P n a s (ZfK K Q)):VC P n (.seq a b) s Q:=fun x ac w hn hs=>by
 refine wp_seq (wp_mono (h _ (fun _ h=>h) x ac w hn hs) ?_)
 rintro e a' w' ⟨s',hq,hr⟩
 cases e with
 |normal=>exact hq x a' w' hn hr
 |_=>exact⟨s',hq,hr⟩
theorem VC.block {id:Nat} {c:Code} (h:VC P n c s (Zbe id Q)):VC P n (.block id c) s Q:=fun x a w hn hs=>by
 refine wp_block (wp_mono (h x a w hn hs) ?_)
 rintro e a' w' ⟨s',hq,hr⟩
 cases e with
 |exit i=>
  by_cases hi:i=id
  ·subst hi;simp only[Zbe,beq_self_eq_true,cond_true]at hq;simp only[Exit.inBlock,if_true];exact⟨s',hq,hr⟩
  ·have:(i == id)=false:=by simpa using hi
   simp only[Zbe,this,cond_false]at hq;simp only[Exit.inBlock,hi,if_false];exact⟨s',hq,hr⟩
 |_=>exact⟨s',hq,hr⟩
def x'y (t:Bool) (F:Bool→Prop):Prop:=match t with|true=>F true|false=>F false
theorem y'E {t:Bool} {F:Bool→Prop} (h1:t=true→F true) (h2:t=false→F false):x'y t F:=by
 cases t
 ·exact h2 rfl
 ·exact h1 rfl
theorem x'N {t:Bool} {F:Bool→Prop} (h:x'y t F):F t:=by cases t<;>exact h
theorem VC.cond {c:Operand} {x y:Code} {t:Bool} (hc:evD s.env c= .is (.bool t)) (h:x'y t fun t=>VC P n (match t with|true=>x|false=>y) s Q):
  VC P n (.cond c x y) s Q:=fun X a w hn hs=>by
 have h1:=hs.ev c
 rw[hc]at h1
 refine wp_cond (t:=t) h1 ?_
 have h2:=x'N h X a w hn hs
 cases t<;>exact h2
def Weak (s s':St):Prop:= ∀x a w,SRel x s a w→SRel x s' a w
theorem VC.weak {c:Code} {s':St} (h:Weak s s') (hv:VC P n c s' Q):VC P n c s Q:=fun x a w hn hs=>hv x a w hn (h x a w hs)
theorem Weak.env {env env':Nat→D} {H:Heap} (h: ∀t,env' t= .any∨env' t=env t):Weak ⟨env,H⟩ ⟨env',H⟩:=fun x a w hs=>
 {env:=fun t=>by rcases h t with h|h<;>simp only[h];exact trivial;exact hs.env t
  inv:=hs.inv,evo:=hs.evo,defers:=hs.defers,size:=hs.size}
def sub (env:Nat→D):List (Nat×D)→Prop
 |[]=>True
 |(t,d)::r=>env t=d∧sub env r
theorem Zfe {env:Nat→D}: ∀(env':List (Nat×D)),sub env env'→ ∀t,x'K env' t= .any∨x'K env' t=env t
 |[],_,t=> .inl rfl
 |(k,d)::r,h,t=>by
  simp only[x'K]
  by_cases e:k=t
  ·subst e;simp[h.1]
  ·have:(k == t)=false:=by simpa using e
   simpa[this]using Zfe r h.2 t
theorem Weak.sub {env:Nat→D} {env':List (Nat×D)} {H:Heap} (h:Vc.sub env env'):Weak ⟨env,H⟩ ⟨x'K env',H⟩:=Weak.env (Zfe _ h)
theorem VC.loop {c:Code} (κ:Type) (S:κ→St) (μ:κ→Nat) (k:κ) (h0:Weak s (S k))
  (h: ∀k,VC P n c (S k) (ZfK (fun s'=> ∃k',Weak s' (S k')∧μ k'<μ k) Q)):VC P n (.loop c) s Q:=fun x a w hn hs=>by
 intro b kk cs
 have key: ∀m k,μ k=m→ ∀a w,SRel x (S k) a w→
   ∃e a' w',(∃s',Q e s'∧SRel x s' a' w')∧Arrives P (lone (b.at a (.code c:: .inLoop c::kk)) cs w) b kk cs e a' w':=by
  intro m
  induction m using Nat.strongRecOn with
  |_ m ih=>
   intro k hk a w hs
   obtain⟨e,a1,w1,hq,harr⟩:=h k x a w hn hs b (.inLoop c::kk) cs
   obtain⟨s1,hq,hr⟩:=hq
   cases e with
   |normal=>
    obtain⟨k',hw,hlt⟩:=hq
    obtain⟨e2,a2,w2,hq2,harr2⟩:=ih (μ k') (hk▸hlt) k' rfl a1 w1 (hw _ _ _ hr)
    exact⟨e2,a2,w2,hq2,.of_steps (Steps.trans harr (.one step_inLoop)) harr2⟩
   |exit id=>exact⟨_,a1,w1,⟨s1,hq,hr⟩,.pass (x:= .inLoop c) rfl (fun _ _=> .inl (by simp)) harr⟩
   |goto l=>exact⟨_,a1,w1,⟨s1,hq,hr⟩,.pass (x:= .inLoop c) rfl (fun _ _=> .inl (by simp)) harr⟩
   |ret=>exact⟨_,a1,w1,⟨s1,hq,hr⟩,.pass (x:= .inLoop c) rfl (fun _ _=> .inl (by simp)) harr⟩
   |panic ch=>exact⟨_,a1,w1,⟨s1,hq,hr⟩,.pass (x:= .inLoop c) rfl (fun _ _=> .inl (by simp)) harr⟩
   |outgrown=>exact⟨_,a1,w1,⟨s1,hq,hr⟩,.pass (x:= .inLoop c) rfl (fun _ _=> .inl (by simp)) harr⟩
 obtain⟨e,a',w',hq,harr⟩:=key _ k rfl a w (h0 _ _ _ hs)
 exact⟨e,a',w',hq,.of_steps (.one step_loop) harr⟩
end
def y'B (n:Nat) (o:Oper):Bool:=match o.dst with|some d=>Nat.blt d n|none=>true
theorem w'E {n:Nat} {o:Oper} (h:y'B n o=true): ∀t,o.dst=some t→t<n:=fun t ht=>by
 simpa[y'B,ht]using h
def VCo (P:Program) (n:Nat) (ops:Array Oper) (l:List Oper) (s:St) (Q:Exit→St→Prop):Prop:=
 ∀(x:Ctx) (a:Act) (w:World),x.n=n→SRel x s a w→wpList P ops (fun e a' w'=> ∃s',Q e s'∧SRel x s' a' w') l a w
def VCr (P:Program) (n:Nat) (ops:Array Oper) (o:Oper) (l:List Oper) (s:St) (Q:Exit→St→Prop):Prop:=
 ∀(x:Ctx) (a:Act) (w:World),x.n=n→SRel x s a w→
  o.wp P a w (wpList P ops (fun e a' w'=> ∃s',Q e s'∧SRel x s' a' w') l) (fun e a' w'=> ∃s',Q e s'∧SRel x s' a' w')
section
variable {P : Program} {n : Nat} {ops : Array Oper} {o : Oper} {r : List Oper} {s : St} {Q : Exit → St → Prop}
theorem VC.region {id:Nat} {l:List Oper} (h:VCo P n l.toArray l s Q):VC P n (.region id l.toArray false) s Q:=fun x a w hn hs=>
 wp_region_lit (h x a w hn hs)
theorem VCo.nil (h:Q .normal s):VCo P n ops [] s Q:=fun x a w hn hs=>wpList_nil ⟨s,h,hs⟩
theorem VCr.run (hd:y'B n o=true) (h: ∀K:St→Prop,(∀s,VCo P n ops r s Q→K s)→Op1 P o (evD s.env) s.heap (fun d H=>K (s.put o.dst d H))):VCr P n ops o r s Q:=fun x a w hn hs=>by
 obtain⟨Φ,hop,hk⟩:=h _ (fun _ h=>h)
 have hg:=hop w x.L0 a.eval hs.inv (fun y _=>hs.ev y)
 refine hg.upon ?_
 rintro v w' ⟨d,H',hΦ,hv,hi,he⟩
 exact hk d H' hΦ x _ w' hn (hs.put (fun t ht=>hn▸w'E hd t ht) hv hi he)
theorem VCo.cons (hg:o.guard=none) (hd:y'B n o=true) (h: ∀K:St→Prop,(∀s,VCo P n ops r s Q→K s)→Op1 P o (evD s.env) s.heap (fun d H=>K (s.put o.dst d H))):
  VCo P n ops (o::r) s Q:=fun x a w hn hs=>by
 unfold wpList
 rw[if_pos (by simp[Region.wanted,hg])]
 exact .inl (VCr.run hd h x a w hn hs)
theorem x'A {E:Nat→D} {g:Nat} {d:D} (h:E g=d):upd E g d=E:=by
 funext t
 simp only[upd]
 by_cases e:g=t
 ·subst e;simp[h]
 ·have:(g == t)=false:=by simpa using e
  simp[this]
theorem Zi8 {x:Ctx} {a:Act} {w:World} {j g:Nat} {t:Bool} (hj:(ops[j]?).bind (·.dst)=some g) (hgn:g<x.n) (ht:s.env g= .is (.bool t)) (hs:SRel x s a w):
  yielded ops a.tmps j=some t:=by
 have h1:=hs.env g
 rw[ht]at h1
 have h2:a.tmps[g]?=some (.bool t):=by
  have hlt:g<a.tmps.size:=by rw[hs.size];exact hgn
  have h3:a.tmps.getD g undef= .bool t:=h1
  simp[Array.getD,hlt]at h3
  simp[hlt,h3]
 simp[yielded,hj,h2]
theorem VCo.guard {j g:Nat} {want t:Bool} (hg:o.guard=some (j,want)) (hj:(ops[j]?).bind (·.dst)=some g) (hgn:Nat.blt g n=true) (hd:y'B n o=true) (ht:s.env g= .is (.bool t))
  (h:x'y t fun t'=>match t' == want with
   |true=>VCr P n ops o r ⟨upd s.env g (.is (.bool t')),s.heap⟩ Q
   |false=>VCo P n ops r (St.put ⟨upd s.env g (.is (.bool t')),s.heap⟩ o.dst (.is undef) s.heap) Q):VCo P n ops (o::r) s Q:=fun x a w hn hs=>by
 have hy:=Zi8 hj (by rw[hn];simpa using hgn) ht hs
 have h1:=x'N h
 simp only[x'A ht]at h1
 unfold wpList
 simp only[Region.wanted,hg,hy]
 cases e:t == want with
 |true=>
  rw[e]at h1
  obtain rfl:t=want:=by simpa using e
  rw[if_pos (by simp)]
  exact .inl (h1 x a w hn hs)
 |false=>
  rw[e]at h1
  rw[if_neg (by simpa using e)]
  exact h1 x _ w hn (hs.put (s:=⟨s.env,s.heap⟩) (fun t ht=>hn▸w'E hd t ht) rfl hs.inv (Evo.refl _ _))
end
def Zod (P:Program) (f:FuncId):Prop:= ∃fn,P.funcs[f]?=some fn∧fn.body.isSome=true∧(fn.name == "runtime.NumGoroutine")=false
def Fun (P:Program) (f:FuncId) (args:List D) (H:Heap) (fr:Bool) (Φ:D→Heap→Prop):Prop:=
 Zod P f∧ ∀(w:World) (L0:Nat→Prop) (vs:List Value),HInv w L0 H→RelL w (live H L0) args vs→
  Calls P f vs.toArray w fun e w'=> ∃v,e= .returned v∧ ∃d H',Φ d H'∧
   Rel w' (live H' (fun b=>L0 b∨(fr=true∧b<w.heap.size∧b∉H.blocks))) d v∧HInv w' L0 H'∧Evo w H w' H'
theorem Fun.mono {P:Program} {f:FuncId} {args:List D} {H:Heap} {fr:Bool} {Φ Ψ:D→Heap→Prop} (h:Fun P f args H fr Φ) (hk: ∀d H',Φ d H'→Ψ d H'):Fun P f args H fr Ψ:=
 ⟨h.1,fun w L0 vs hi hr=>(h.2 w L0 vs hi hr).mono fun e w' ⟨v,he,d,H',h1,h2⟩=>⟨v,he,d,H',hk _ _ h1,h2⟩⟩
abbrev Pure (P:Program) (f:FuncId) (args:List D) (d:D):Prop:=Fun P f args [] false (fun d' H'=>d'=d∧H'=[])
def v'c:List D→Nat→Nat→D
 |[],_=>fun _=> .any
 |d::r,i=>upd (v'c r (i+1)) i d
theorem ZaM {w:World} {L:Nat→Prop}: ∀(args:List D) (vs:List Value),RelL w L args vs→ ∀(i t:Nat),Rel w L (v'c args i t) ((if i≤t then vs[t-i]? else none).getD undef)
 |[],vs,h,i,t=>trivial
 |d::r,vs,h,i,t=>by
  rw[RelL]at h
  obtain⟨v,rest,rfl,h1,h2⟩:=h
  simp only[v'c,upd]
  by_cases e:i=t
  ·subst e;simpa using h1
  ·have e':(i == t)=false:=by simpa using e
   have:=ZaM r rest h2 (i+1) t
   rw[e',cond_false]
   by_cases hle:i≤t
   ·rw[if_pos hle]
    rw[if_pos (by omega)]at this
    rwa [show t-i=(t-(i+1))+1 by omega,y'6]
   ·rw[if_neg hle]
    rwa [if_neg (by omega)]at this
def v'3:TypeDesc→Bool
 | .struct _| .array _ _=>true
 |_=>false
inductive Kd where
 |other
 |int (k:IntKind)
 |str
 |bool
 |struct (fields:List (Nat×Nat×Bool))
 |slice (e:TypeId) (esz:Nat) (ebytes:Nat) (eagg:Bool) (ezero:List Value)
 |array (n:Nat) (esz:Nat) (eagg:Bool)
structure TyI where
 known:Bool
 kd:Kd
 agg:Bool
 size:Nat
 zero:List Value
def v'9 (P:Program) (t:TypeId):Bool:=match P.underlying t with|some d=>v'3 d|none=>false
def ZaL (P:Program) (t:TypeId):List Value:=match P.info? t with|some i=>(match i.zero with|some z=>z.cells.toList|none=>[])|none=>[]
def w'k (P:Program) (t:TypeId):Nat:=match P.info? t with|some i=>i.size|none=>0
def Zic (P:Program) (t:TypeId):Nat:=match P.info? t with|some i=>i.bytes|none=>0
def x'b (P:Program) (t:TypeId):Bool:=match P.underlying t,P.info? t with|some _,some i=>i.zero.isSome&&Nat.beq (ZaL P t).length i.size|_,_=>false
def y'0 (P:Program):TypeDesc→Kd
 | .int k=> .int k
 | .string=> .str
 | .bool=> .bool
 | .struct fs=>match fs.toList.all (fun f=>x'b P f.type)with
  |true=> .struct (fs.toList.map fun f=>(f.offset,w'k P f.type,v'9 P f.type))
  |false=> .other
 | .slice e=>match x'b P e with|true=> .slice e (w'k P e) (Zic P e) (v'9 P e) (ZaL P e)|false=> .other
 | .array n e=>match x'b P e with|true=> .array n (w'k P e) (v'9 P e)|false=> .other
 |_=> .other
def ZeY (P:Program) (t:TypeId):TyI:=
 match P.underlying t with
 |some d=>⟨x'b P t,y'0 P d,v'3 d,w'k P t,ZaL P t⟩
 |none=>⟨false,.other,false,0,[]⟩
theorem y'g {P:Program} {t:TypeId} (h:x'b P t=true):
  ∃d i z,P.underlying t=some d∧P.info? t=some i∧i.zero=some z∧i.size=w'k P t∧v'3 d=v'9 P t∧z.cells.toList=ZaL P t∧(ZaL P t).length=w'k P t∧i.bytes=Zic P t:=by
 unfold x'b at h
 cases hu:P.underlying t with
 |none=>simp[hu]at h
 |some d=>
  cases hi:P.info? t with
  |none=>simp[hu,hi]at h
  |some i=>
   simp only[hu,hi,z'b]at h
   cases hz:i.zero with
   |none=>simp[hz]at h
   |some z=>
    refine⟨d,i,z,rfl,rfl,hz,by simp[w'k,hi],by simp[v'9,hu],by simp[ZaL,hi,hz],?_,by simp[Zic,hi]⟩
    have:=h.2
    simp only[w'k,hi]
    exact z'd this
theorem Zi3 {P:Program} {t:TypeId} {x:TyI} (h:ZeY P t=x) (hx:x.known=true):
  ∃d i z,P.underlying t=some d∧P.info? t=some i∧i.zero=some z∧x.kd=y'0 P d∧v'3 d=x.agg∧i.size=x.size∧z.cells.toList=x.zero∧x.zero.length=x.size∧x'b P t=true:=by
 subst h
 unfold ZeY at hx⊢
 cases hu:P.underlying t with
 |none=>simp[hu]at hx
 |some d=>
  simp only[hu]at hx⊢
  obtain⟨d',i,z,h1,h2,h3,h4,h5,h6,h7,h8⟩:=y'g hx
  rw[hu]at h1
  cases h1
  exact⟨d,i,z,rfl,h2,h3,rfl,rfl,h4,h6,h7,hx⟩
structure Tab (P:Program) where
 get:TypeId→TyI
 ok: ∀t,(get t).known=true→get t=ZeY P t
def Zc4:List (TypeId×TyI)→TypeId→TyI
 |[],_=>⟨false,.other,false,0,[]⟩
 |(k,i)::r,t=>bif k == t then i else Zc4 r t
theorem ZgD {P:Program}: ∀(l:List (TypeId×TyI)),l.map (fun x=>ZeY P x.1)=l.map (·.2)→ ∀t,(Zc4 l t).known=true→Zc4 l t=ZeY P t
 |[],_,t,hk=>by simp[Zc4]at hk
 |(k,i)::r,h,t,hk=>by
  simp only[z'g,x'D]at h
  simp only[Zc4]at hk⊢
  by_cases e:k=t
  ·subst e;simp[h.1]
  ·have e':(k == t)=false:=by simpa using e
   simp only[e',cond_false]at hk⊢
   exact ZgD r h.2 t hk
theorem Tab.facts {P:Program} (T:Tab P) {t:TypeId} (hx:(T.get t).known=true):
  ∃d i z,P.underlying t=some d∧P.info? t=some i∧i.zero=some z∧(T.get t).kd=y'0 P d∧v'3 d=(T.get t).agg∧i.size=(T.get t).size∧z.cells.toList=(T.get t).zero∧(T.get t).zero.length=(T.get t).size∧x'b P t=true:=
 Zi3 (T.ok t hx).symm hx
theorem z'a {α β:Type} {P:Program} {x:Sem α} {f:α→Sem β} {a:α} {w w':World} (h:x.run P w= .ok a w'):(x>>=f).run P w=(f a).run P w':=by
 simp[go_sem,h]
theorem ZaF {α:Type} {P:Program} {a:α} {w:World}:(pure a:Sem α).run P w= .ok a w:=rfl
theorem w'm (b o n:Nat):(⟨b,o,none⟩:Addr).add n=⟨b,o+n,none⟩:=by
 unfold Addr.add
 split
 ·rename_i h;subst h;rfl
 ·rfl
theorem v'Z {P:Program} {t:TypeId} {d:TypeDesc} (h:P.underlying t=some d) (w:World):
  (isAgg t).run P w= .ok (v'3 d) w:=by
 simp[isAgg,run_underlying h,go_sem]
 cases d<;>simp[go_sem,v'3]
theorem w'x {P:Program} {t:TypeId} {i:TypeInfo} (h:P.info? t=some i) (w:World):(typeInfo t).run P w= .ok i w:=by
 simp[typeInfo,h,go_sem]
theorem x'X {P:Program} {t:TypeId} {i:TypeInfo} (h:P.info? t=some i) (w:World):(sizeOf t).run P w= .ok i.size w:=by
 simp[sizeOf,w'x h,go_sem]
theorem w'M {P:Program} {w:World} {b o:Nat} {t:TypeId} {d:TypeDesc} {i:TypeInfo} (cs:List Value) (hu:P.underlying t=some d) (hi:P.info? t=some i) (hk:i.size=cs.length)
  (hc: ∀(j:Nat) v,cs[j]?=some v→w.cell? ⟨b,o+j,none⟩=some v) (ha:v'3 d=true):
  (loadVar t ⟨b,o,none⟩).run P w= .ok (.agg cs.toArray) w:=by
 have h1:=v'Z hu w
 rw[ha]at h1
 have h2:=run_loadCells_list (P:=P) (w:=w) ⟨b,o,none⟩ cs (fun j v hv=>by rw[w'm];exact hc j v hv)
 unfold loadVar
 rw[z'a h1]
 simp only[if_true]
 rw[z'a (x'X hi w),hk,z'a h2]
 rfl
theorem w'5 {P:Program} {w:World} {b o:Nat} {t:TypeId} {d:TypeDesc} {v:Value} (hu:P.underlying t=some d)
  (hc:w.cell? ⟨b,o,none⟩=some v) (ha:v'3 d=false):(loadVar t ⟨b,o,none⟩).run P w= .ok v w:=by
 have h1:=v'Z hu w
 rw[ha]at h1
 unfold loadVar
 rw[z'a h1]
 simp only[y'i,if_false]
 simp[load,Sem.run,hc]
theorem HRel.cells {w:World} {b n:Nat} {ty:TypeId} {l:List D} {L:Nat→Prop} (h:HRel w L b (.cells ty n l)):
  ∃cs:List Value,RelL w L l cs∧ ∀(j:Nat) v,cs[j]?=some v→w.cell? ⟨b,j,none⟩=some v:=by
 obtain⟨_,arr,hb,hn,hr⟩:=h
 refine⟨_,hr,fun j v hv=>?_⟩
 rw[y'v]at hv
 split at hv
 ·simp only[World.cell?,hb];simpa using hv
 ·cases hv
theorem CellsAt.values {w:World} {L:Nat→Prop}: ∀(l:List D) (b o:Nat),CellsAt w L l b o→ ∃cs:List Value,RelL w L l cs∧ ∀(j:Nat) v,cs[j]?=some v→w.cell? ⟨b,o+j,none⟩=some v
 |[],b,o,_=>⟨[],rfl,fun j v hv=>by simp at hv⟩
 |d::ds,b,o,h=>by
  rw[CellsAt]at h
  obtain⟨_,⟨_,v,hv,hr⟩,h2⟩:=h
  obtain⟨cs,hcs,hc⟩:=CellsAt.values ds b (o+1) h2
  refine⟨v::cs,⟨v,cs,rfl,hr,hcs⟩,fun j u hu=>?_⟩
  cases j with
  |zero=>simp at hu;subst hu;simpa using hv
  |succ j=>
   have:=hc j u (by simpa using hu)
   rwa [show o+1+j=o+(j+1) by omega]at this
def v'2 {P:Program} (T:Tab P) (s:St):List ResultVar→List D→Prop
 |[],ds=>ds=[]
 | .tmp t::r,ds=> ∃rest,ds=s.env t::rest∧v'2 T s r rest
 | .cell a t::r,ds=> ∃b ty n l rest,s.env a= .is (.pointer (some ⟨b,0,none⟩))∧(b,HC.cells ty n l)∈s.heap∧
   (T.get t).known=true∧(T.get t).size=l.length∧
   (match (T.get t).agg with
    |true=>ds= .agg l::rest
    |false=> ∃d,l=[d]∧ds=d::rest)∧v'2 T s r rest
def v'q:List D→D
 |[d]=>d
 |ds=> .tup ds
theorem ZdJ {P:Program} (T:Tab P) {s:St} {w:World} {L0:Nat→Prop} {tmps:Array Value} (hi:HInv w L0 s.heap) (he: ∀t,Rel w (live s.heap L0) (s.env t) (tmps.getD t undef)):
  ∀(rs:List ResultVar) (ds:List D),v'2 T s rs ds→ ∃vs,RelL w (live s.heap L0) ds vs∧
   (rs.mapM (fun| .tmp t=>pure (tmps.getD t undef)| .cell a t=>do loadVar t (←asAddr (tmps.getD a undef)):ResultVar→Sem Value)).run P w= .ok vs w
 |[],ds,h=>by
  rw[v'2]at h;subst h
  exact⟨[],rfl,by simp[go_sem]⟩
 | .tmp t::r,ds,h=>by
  rw[v'2]at h
  obtain⟨rest,rfl,h⟩:=h
  obtain⟨vs,h1,h2⟩:=ZdJ T hi he r rest h
  refine⟨tmps.getD t undef::vs,⟨_,_,rfl,he t,h1⟩,?_⟩
  rw[x'n,z'a ZaF,z'a h2]
  rfl
 | .cell a t::r,ds,h=>by
  rw[v'2]at h
  obtain⟨b,ty,n,l,rest,ha,hb,hk,hs,hm,h⟩:=h
  obtain⟨vs,h1,h2⟩:=ZdJ T hi he r rest h
  obtain⟨d,i,z,hu,hinfo,_,_,hagg,hsz,_⟩:=T.facts hk
  obtain⟨cs,hcs,hc⟩:=HRel.cells (hi.rel _ _ hb)
  have hlen:=RelL.length _ _ hcs
  have hpa:tmps.getD a undef= .pointer (some ⟨b,0,none⟩):=by have:=he a;rw[ha]at this;exact this
  cases hag:(T.get t).agg with
  |true=>
   rw[hag]at hm
   obtain rfl:=hm
   have hl:=w'M (P:=P) (w:=w) (b:=b) (o:=0) cs hu hinfo (by rw[hsz,hs,hlen]) (by simpa using hc) (by rw[hagg,hag])
   refine⟨.agg cs.toArray::vs,⟨_,_,rfl,⟨(hi.rel _ _ hb).1,_,rfl,by simpa using hcs⟩,h1⟩,?_⟩
   have hl':(asAddr (tmps.getD a undef)>>=fun x=>loadVar t x).run P w= .ok (.agg cs.toArray) w:=by
    rw[hpa,z'a (a:=⟨b,0,none⟩) (w':=w) rfl,hl]
   rw[x'n,z'a hl',z'a h2]
   rfl
  |false=>
   rw[hag]at hm
   obtain⟨d0,rfl,rfl⟩:=hm
   obtain⟨v,hv,hr⟩:=RelL.get _ _ hcs 0 d0 rfl
   have hl:=w'5 (P:=P) (w:=w) (b:=b) (o:=0) hu (hc 0 v hv) (by rw[hagg,hag])
   refine⟨v::vs,⟨_,_,rfl,hr,h1⟩,?_⟩
   have hl':(asAddr (tmps.getD a undef)>>=fun x=>loadVar t x).run P w= .ok v w:=by
    rw[hpa,z'a (a:=⟨b,0,none⟩) (w':=w) rfl,hl]
   rw[x'n,z'a hl',z'a h2]
   rfl
theorem Zdl {P:Program} (T:Tab P) {s:St} {w:World} {L0:Nat→Prop} {tmps:Array Value} (hi:HInv w L0 s.heap) (he: ∀t,Rel w (live s.heap L0) (s.env t) (tmps.getD t undef))
  (fn:Func) (ds:List D) (h:v'2 T s fn.results.toList ds): ∃v,(results fn tmps).run P w= .ok v w∧Rel w (live s.heap L0) (v'q ds) v:=by
 obtain⟨vs,h1,h2⟩:=ZdJ T hi he _ _ h
 have h3:=RelL.length _ _ h1
 refine⟨if h:vs.toArray.size=1 then vs.toArray[0]else .tuple vs.toArray,?_,?_⟩
 ·unfold results
  rw[Array.mapM_eq_mapM_toList]
  rw[z'a (w':=w) (a:=vs.toArray) (by rw[map_eq_pure_bind];exact(z'a (f:=fun a=>pure a.toArray) h2).trans rfl)]
  rfl
 ·match ds,vs,h1,h3 with
  |[],[],_,_=>exact⟨#[],by simp,rfl⟩
  |[d],[v],h1,_=>
   obtain⟨v',r,e,h4,_⟩:=h1
   cases e
   simpa[v'q]using h4
  |d1::d2::ds,v1::v2::vs,h1,_=>exact⟨_,by simp;rfl,by simpa using h1⟩
def SubH:Heap→Heap→Prop
 |H',H=>H'.Sublist H
theorem SubH.blocks {H' H:Heap} (h:H'.Sublist H): ∀b,b∈H'.blocks→b∈H.blocks:=fun b hb=>(h.map (·.1)).subset hb
theorem SubH.live {H' H:Heap} (h:H'.Sublist H) (w:World) (L0:Nat→Prop):Keeps w (live H L0) w (live H' L0):=
 Keeps.less fun b _ hl=>hl.imp id (SubH.blocks h b)
theorem HRel.mono {w w':World} {L L':Nat→Prop} {b:Nat} {c:HC} (h:HRel w L b c) (hk:Keeps w L w' L') (hb:w'.heap[b]?=w.heap[b]?):HRel w' L' b c:=by
 cases c with
 |cells ty n l=>
  obtain⟨h0,arr,h1,h2,h3⟩:=h
  exact⟨h0,arr,hb.trans h1,h2,RelL.mono hk _ _ h3⟩
 |iter s pos=>exact hb.trans h
 |obj o=>exact hb.trans h
theorem SubH.inv {H' H:Heap} (h:H'.Sublist H) {w:World} {L0:Nat→Prop} (hi:HInv w L0 H):HInv w L0 H' where
 rel b c hm:=(hi.rel b c (h.subset hm)).mono (SubH.live h w L0) rfl
 nodup:=List.Sublist.nodup (show List.Sublist (List.map Prod.fst H') (List.map Prod.fst H) from h.map _) hi.nodup
 apart b hb:=hi.apart b (SubH.blocks h b hb)
 old:=hi.old
theorem SubH.evo {H' H:Heap} (h:H'.Sublist H) {w w':World} {H0:Heap} (he:Evo w H0 w' H):Evo w H0 w' H':=
 ⟨he.os,he.tape,he.output,he.size,he.block,fun b hb=>he.fresh b (SubH.blocks h b hb)⟩
def z'Z {P:Program} (T:Tab P) (rs:List ResultVar) (Φ:D→Heap→Prop):Exit→St→Prop
 | .ret,s| .normal,s=> ∃ds H',v'2 T s rs ds∧H'.Sublist s.heap∧Φ (v'q ds) H'
 |_,_=>False
theorem Fun.of {P:Program} (T:Tab P) {f:FuncId} {fn:Func} {c:Code} {n:Nat} {args:List D} {H:Heap} {Φ:D→Heap→Prop} (rs:List ResultVar)
  (hf:P.funcs[f]?=some fn) (hb:fn.body=some c) (hn:fn.ntmps=n) (hrs:fn.results=rs.toArray) (hargs:Nat.ble args.length n=true) (hname:(fn.name == "runtime.NumGoroutine")=false)
  (h:VC P n c ⟨v'c args 0,H⟩ (z'Z T rs Φ)):Fun P f args H false Φ:=by
 refine⟨⟨fn,hf,by rw[hb];rfl,hname⟩,?_⟩
 intro w L0 vs hi hr
 have hlen:=RelL.length _ _ hr
 have hle:args.length≤n:=by simpa using hargs
 refine calls_of_wp hf hb ?_
 let x:Ctx:=⟨w,L0,H,n,[]⟩
 have hs:SRel x ⟨v'c args 0,H⟩ {tmps:=vs.toArray++Array.replicate (fn.ntmps-vs.toArray.size) undef,defers:=[]} w:=by
  refine⟨fun t=>?_,hi,Evo.refl _ _,rfl,?_⟩
  ·have:=ZaM args vs hr 0 t
   simp only[z'Q,if_true,Nat.sub_zero]at this
   have e:(vs.toArray++Array.replicate (fn.ntmps-vs.toArray.size) undef).getD t undef=(vs[t]?).getD undef:=by
    rw[z'w,Array.getElem?_append]
    split
    ·simp
    ·rename_i hlt
     have h1:vs[t]?=none:=by simp at hlt⊢;exact hlt
     rw[h1]
     rw[y'Y]
     split<;>rfl
   rw[e];exact this
  ·show(vs.toArray++Array.replicate (fn.ntmps-vs.toArray.size) undef).size=n
   simp[hn,hlen];omega
 refine wp_mono (h x _ w rfl hs) ?_
 rintro e a' w' ⟨s',hq,hr'⟩
 have fin:(∃ds H',v'2 T s' rs ds∧H'.Sublist s'.heap∧Φ (v'q ds) H')→a'.defers=[]∧ ∃v,(results fn a'.tmps).run P w'= .ok v w'∧
   ∃u,Ending.returned v= .returned u∧ ∃d H',Φ d H'∧Rel w' (live H' (fun b=>L0 b∨(false=true∧b<w.heap.size∧b∉H.blocks))) d u∧HInv w' L0 H'∧Evo w H w' H':=by
  rintro⟨ds,H',h1,h2,h3⟩
  obtain⟨v,hv,hrel⟩:=Zdl T hr'.inv hr'.env fn ds (by rw[hrs];exact h1)
  refine⟨hr'.defers,v,hv,v,rfl,v'q ds,H',h3,?_,SubH.inv h2 hr'.inv,SubH.evo h2 hr'.evo⟩
  refine Rel.mono (Keeps.less fun b _ hl=>?_) _ _ hrel
  rcases hl with hl|hl
  ·exact .inl (hl.elim id (fun h=>absurd h.1 (by simp)))
  ·exact .inr (SubH.blocks h2 b hl)
 cases e with
 |normal=>obtain⟨h1,v,h2,h3⟩:=fin hq;exact⟨h1,v,h2,h3⟩
 |ret=>obtain⟨h1,v,h2,h3⟩:=fin hq;exact⟨h1,v,h2,h3⟩
 |exit id=>exact hq.elim
 |goto l=>exact hq.elim
 |panic ch=>exact hq.elim
 |outgrown=>exact hq.elim
theorem w'w {P:Program} {f:FuncId} {fn:Func} (hf:P.funcs[f]?=some fn) (hb:fn.body.isSome=true) (hname:(fn.name == "runtime.NumGoroutine")=false) (args:Array Value) (w:World):
  (callFunc f args).run P w= .ok (.enter f args) w:=by
 have:fn.body.isNone=false:=by cases h:fn.body<;>simp_all
 unfold callFunc
 rw[z'a (a:=P) (w':=w) rfl]
 simp only[hf,hname,this,y'i,if_false]
 rfl
theorem Op1.call {P:Program} {o:Oper} {E:Operand→D} {f:FuncId} {xf:Operand} {as:Array Operand} {tys:Array TypeId} {Hp Hr:Heap} {fr:Bool} {Φ:D→Heap→Prop} {K:D→Heap→Prop}
  (ho:o.op= .call ⟨.value xf,as,tys⟩) (hE:E xf= .is (.func (.func f) #[] #[])) (h:Fun P f (as.toList.map E) Hp fr Φ) (hk: ∀d Hp',Φ d Hp'→K d (Hp'++Hr)):Op1 P o E (Hp++Hr) K:=by
 refine⟨fun d H'=> ∃Hp',Φ d Hp'∧H'=Hp'++Hr,?_,fun d H' ⟨Hp',h1,h2⟩=>h2▸hk d Hp' h1⟩
 intro w L0 ε hi hx
 obtain⟨⟨fn,hf,hbody,hname⟩,h⟩:=h
 have hrun:(execOp ε o).run P w= .ok (.enter f (as.toList.map ε).toArray) w:=by
  have hff:ε xf= .func (.func f) #[] #[]:=by
   have:=hx xf (by simp[ho,Op.operands,Call.operands])
   rw[hE]at this;exact this
  have:=w'w hf hbody hname (as.map ε) w
  have e:(as.toList.map ε).toArray=as.map ε:=by rw[←Array.toList_map]
  rw[e]
  simp[execOp,ho,resolve,Deferred.ofValue,hff,invoke,go_sem]
  exact this
 rw[hrun]
 have hmem: ∀b,b∈(Hp++Hr).blocks↔b∈Hp.blocks∨b∈Hr.blocks:=fun b=>by simp[Heap.blocks]
 let L1:Nat→Prop:=fun b=>L0 b∨b∈Hr.blocks
 have hlt: ∀b,b∈(Hp++Hr).blocks→b<w.heap.size:=fun b hb=>by
  obtain⟨⟨b',c⟩,hm,rfl⟩:=z'o.1 hb
  have:=hi.rel _ _ hm
  cases c with
  |cells ty n l=>
   obtain⟨_,arr,h1,_⟩:=this
   rcases z't b' w.heap.size with h'|h'
   ·exact h'
   ·simp[y'e h']at h1
  |iter s pos=>
   rcases z't b' w.heap.size with h'|h'
   ·exact h'
   ·have h1:w.heap[b']?=_:=this
    simp[y'e h']at h1
  |obj o=>
   rcases z't b' w.heap.size with h'|h'
   ·exact h'
   ·have h1:w.heap[b']?=_:=this
    simp[y'e h']at h1
 have hnd:Hp.blocks.Nodup∧Hr.blocks.Nodup∧ ∀b,b∈Hp.blocks→b∉Hr.blocks:=by
  have:=hi.nodup
  simp only[Heap.blocks,z'y]at this
  obtain⟨h1,h2,h3⟩:=z'6.1 this
  exact⟨h1,h2,fun b hp hr=>h3 b hp b hr rfl⟩
 have same: ∀b,live Hp L1 b↔live (Hp++Hr) L0 b:=fun b=>by
  simp only[live,L1,hmem]
  constructor
  ·rintro((h|h)|h)
   ·exact .inl h
   ·exact .inr (.inr h)
   ·exact .inr (.inl h)
  ·rintro(h|h|h)
   ·exact .inl (.inl h)
   ·exact .inr h
   ·exact .inl (.inr h)
 have hk1:Keeps w (live (Hp++Hr) L0) w (live Hp L1):=Keeps.less fun b _ hl=>(same b).1 hl
 have hi1:HInv w L1 Hp:=
  {rel:=fun b c hm=>(hi.rel b c (z'5 _ hm)).mono hk1 rfl
   nodup:=hnd.1
   apart:=fun b hb hl=>by
    rcases hl with hl|hl
    ·exact hi.apart b ((hmem b).2 (.inl hb)) hl
    ·exact hnd.2.2 b hb hl
   old:=fun b hl=>by
    rcases hl with hl|hl
    ·exact hi.old b hl
    ·exact hlt b ((hmem b).2 (.inr hl))}
 have hargs:RelL w (live Hp L1) (as.toList.map E) (as.toList.map ε):=by
  have: ∀l:List Operand,(∀x∈l,x∈as.toList)→RelL w (live Hp L1) (l.map E) (l.map ε):=by
   intro l
   induction l with
   |nil=>intro _;rfl
   |cons x l ih=>
    intro hl
    refine⟨ε x,l.map ε,rfl,Rel.mono hk1 _ _ (hx x ?_),ih fun y hy=>hl y (z'n _ hy)⟩
    have:=hl x (z'k ..)
    simp only[ho,Op.operands,Call.operands]
    exact Array.mem_append.2 (.inr (y'A.1 this))
  exact this _ fun _ h=>h
 refine(h w L1 _ hi1 hargs).mono ?_
 rintro e w' ⟨v,rfl,d,Hp',hΦ,hrel,hi',he⟩
 have hmem': ∀b,b∈(Hp'++Hr).blocks↔b∈Hp'.blocks∨b∈Hr.blocks:=fun b=>by simp[Heap.blocks]
 have hevo:Evo w (Hp++Hr) w' (Hp'++Hr):=
  ⟨he.os,he.tape,he.output,he.size,fun b hb hn=>he.block b hb (fun h=>hn ((hmem b).2 (.inl h))),fun b hb=>by
   rcases(hmem' b).1 hb with h|h
   ·exact(he.fresh b h).imp (fun h=>(hmem b).2 (.inl h)) id
   ·exact .inl ((hmem b).2 (.inr h))⟩
 refine⟨v,rfl,d,Hp'++Hr,⟨Hp',hΦ,rfl⟩,?_,?_,hevo⟩
 ·refine Rel.mono (Keeps.less fun b _ hl=>?_) _ _ hrel
  rcases hl with hl|hl
  ·exact .inl (.inl (.inl hl))
  ·rcases(hmem' b).1 hl with hl|hl
   ·exact .inr hl
   ·exact .inl (.inl (.inr hl))
 ·exact
   {rel:=fun b c hm=>by
     rcases y'j.1 hm with hm|hm
     ·refine(hi'.rel b c hm).mono (Keeps.less fun b _ hl=>?_) rfl
      rcases hl with hl|hl
      ·exact .inl (.inl hl)
      ·rcases(hmem' b).1 hl with hl|hl
       ·exact .inr hl
       ·exact .inl (.inr hl)
     ·have hbr:b∈Hr.blocks:=z'o.2 ⟨(b,c),hm,rfl⟩
      exact(hi.rel b c (y's _ hm)).mono hevo.keeps (he.block b (hlt b ((hmem b).2 (.inr hbr))) (fun h=>hnd.2.2 b h hbr))
    nodup:=by
     simp only[Heap.blocks,z'y]
     refine z'6.2 ⟨hi'.nodup,hnd.2.1,fun a ha b hb hab=>?_⟩
     subst hab
     rcases he.fresh a ha with h|h
     ·exact hnd.2.2 a h hb
     ·have:=hlt a ((hmem a).2 (.inr hb));omega
    apart:=fun b hb hl=>by
     rcases(hmem' b).1 hb with h|h
     ·exact hi'.apart b h (.inl hl)
     ·exact hi.apart b ((hmem b).2 (.inr h)) hl
    old:=fun b hl=>z'm (hi.old b hl) he.size}
theorem Op1.callp {P:Program} {o:Oper} {E:Operand→D} {f:FuncId} {xf:Operand} {as:Array Operand} {tys:Array TypeId} {H:Heap} {fr:Bool} {d0:D} {args:List D} {K:D→Heap→Prop}
  (ho:o.op= .call ⟨.value xf,as,tys⟩) (hE:E xf= .is (.func (.func f) #[] #[])) (h:Fun P f args [] fr (fun d H'=>d=d0∧H'=[])) (ha:as.toList.map E=args) (hk:K d0 H):Op1 P o E H K:=
 Op1.call (Hp:=[]) ho hE (ha▸h) fun d Hp' ⟨h1,h2⟩=>by subst h1;subst h2;exact hk
theorem OpS.k {P:Program} {o:Oper} {E:Operand→D} {H:Heap} {d:D} {K:D→Heap→Prop} (h:OpS P o E H (fun d' H'=>d'=d∧H'=H)) (hk:K d H):Op1 P o E H K:=
 ⟨_,h,fun _ _ ⟨h1,h2⟩=>h1▸h2▸hk⟩
theorem Op1.value {P:Program} {o:Oper} {E:Operand→D} {H:Heap} {K:D→Heap→Prop} {d:D}
  (h: ∀(w:World) (L0:Nat→Prop) (ε:Operand→Value),HInv w L0 H→(∀x,x∈o.op.operands→Rel w (live H L0) (E x) (ε x))→ ∃v,(execOp ε o).run P w= .ok (.value v) w∧Rel w (live H L0) d v)
  (hk:K d H):Op1 P o E H K:=(OpS.value h).k hk
theorem Zei {P:Program} {o:Oper} {E:Operand→D} {H:Heap} {K:D→Heap→Prop} {x:Operand} (ho:o.op= .move x∨o.op= .assign x) (hk:K (E x) H):Op1 P o E H K:=
 Op1.value (fun w L0 ε hi hx=>⟨ε x,by rcases ho with ho|ho<;>(simp only[execOp,ho];rfl),hx x (by rcases ho with ho|ho<;>simp[ho,Op.operands])⟩) hk
def cPick (c a b:D) (K:D→Prop):Prop:=
 match c with
 | .is (.bool t)=>x'y t fun t=>K (match t with|true=>a|false=>b)
 |_=>False
theorem ZjX {P:Program} {o:Oper} {E:Operand→D} {H:Heap} {K:D→Heap→Prop} {c a b:Operand} (ho:o.op= .pick c a b) (hk:cPick (E c) (E a) (E b) (K · H)):Op1 P o E H K:=by
 unfold cPick at hk
 split at hk
 ·rename_i t hc
  have h:=x'N hk
  refine Op1.value (fun w L0 ε hi hx=>?_) h
  have h1:=hx c (by simp[ho,Op.operands])
  have h2:=hx a (by simp[ho,Op.operands])
  have h3:=hx b (by simp[ho,Op.operands])
  rw[hc]at h1
  have h1':ε c= .bool t:=h1
  refine⟨if t then ε a else ε b,?_,?_⟩
  ·simp only[execOp,ho,h1',asBool]
   cases t<;>rfl
  ·cases t
   ·exact h3
   ·exact h2
 ·exact hk.elim
def kTag:IntKind→Nat
 | .i8=>0| .i16=>1| .i32=>2| .i64=>3| .u8=>4| .u16=>5| .u32=>6| .u64=>7
theorem Zb2 {j k:IntKind} (h:(kTag j == kTag k)=true):j=k:=by cases j<;>cases k<;>first|rfl|(simp[kTag]at h)
def cInt (op:BinOp) (k:IntKind) (x y:Int) (K:D→Prop):Prop:=
 match op with
 | .add=>K (.is (.int k (k.wrap (x+y))))
 | .sub=>K (.is (.int k (k.wrap (x-y))))
 | .mul=>K (.is (.int k (k.wrap (x*y))))
 | .quo=>y≠0∧K (.is (.int k (k.wrap (x.tdiv y))))
 | .rem=>y≠0∧K (.is (.int k (x.tmod y)))
 | .eql=>K (.is (.bool (x == y)))
 | .neq=>K (.is (.bool (x != y)))
 | .lss=>K (.is (.bool (decide (x<y))))
 | .leq=>K (.is (.bool (decide (x≤y))))
 | .gtr=>K (.is (.bool (decide (x>y))))
 | .geq=>K (.is (.bool (decide (x≥y))))
 |_=>False
def cStr (op:BinOp) (x y:ByteArray) (K:D→Prop):Prop:=
 match op with
 | .add=>x.size+y.size≤9223372036854775807∧K (.is (.string (x++y)))
 | .eql=>K (.is (.bool (decide (x=y))))
 | .neq=>K (.is (.bool (!decide (x=y))))
 | .lss=>K (.is (.bool (Op.bytesLess x.data.toList y.data.toList)))
 |_=>False
def cBin (kd:Kd) (op:BinOp) (a b:D) (K:D→Prop):Prop:=
 match a,b with
 | .is (.int k x),.is (.int k' y)=>match kTag k == kTag k' with|true=>cInt op k x y K|false=>False
 | .is (.string x),.is (.string y)=>cStr op x y K
 | .is (.bool x),.is (.bool y)=>match kd,op with
  | .bool,.eql=>K (.is (.bool (x == y)))
  | .bool,.neq=>K (.is (.bool (x != y)))
  |_,_=>False
 |_,_=>False
theorem ZdN (x y:ByteArray):(x.toList == y.toList)=decide (x=y):=by
 rw[ByteArray.toList_eq,ByteArray.toList_eq]
 by_cases h:x=y
 ·subst h;simp
 ·have:x.data.toList≠y.data.toList:=fun e=>h (by cases x;cases y;simp only[ByteArray.mk.injEq];exact z'B.1 e)
  rw[decide_eq_false h,beq_eq_false_iff_ne]
  exact this
theorem Zc7 {α:Type} {P:Program} {w:World} {c:Prop} [Decidable c] {A B:Sem α} {r:Result α} (hA:A.run P w=r) (hB:B.run P w=r):(if c then A else B).run P w=r:=by
 split<;>assumption
theorem z'U {P:Program} {w:World} {op:BinOp} {t:TypeId} {x y:Operand} {a b:Value} (h:(match a,b with| .nilIface,.nilIface=>False| .agg _,.agg _=>False|_,_=>True)):
  (eqGuard op t x y a b).run P w= .ok () w:=by
 unfold eqGuard
 refine Zc7 rfl ?_
 split
 ·exact h.elim
 ·exact h.elim
 ·rfl
theorem Zbr {P:Program} {t:TypeId} (hu:P.underlying t=some .bool) (a b:Bool) (w:World):(Op.equal t (.bool a) (.bool b)).run P w= .ok (a == b) w:=by
 show(Op.equalIn (9999+1) t _ _).run P w=_
 unfold Op.equalIn
 rw[z'a (run_underlying hu w)]
 rfl
theorem ZhI {P:Program} (T:Tab P) {t:TypeId} (h:(match (T.get t).known with|true=>(T.get t).kd|false=>Kd.other)= .bool):P.underlying t=some .bool:=by
 cases hkn:(T.get t).known with
 |false=>rw[hkn]at h;cases h
 |true=>
  rw[hkn]at h
  obtain⟨d,i,z,h1,h2,h3,h4,_⟩:=T.facts hkn
  rw[show(T.get t).kd=Kd.bool from h]at h4
  cases d<;>simp only[y'0]at h4<;>first|exact h1|cases h4|(split at h4<;>cases h4)
theorem Zlv {P : Program} (T : Tab P) {o : Oper} {E : Operand → D} {H : Heap} {K : D → Heap → Prop} {op : BinOp} {t u : TypeId} {x y : Operand} (ho : o.op = .binOp op t x y u)
    (hk : cBin (match (T.get t).known with | true => (T.get t).kd | false => .other) op (E x) (E y) (K · H)) : Op1 P o E H K := by
  have fin : ∀ (a b : Value) (d : D) (v : Value), E x = .is a → E y = .is b → (∀ w, (eqGuard op t x y a b).run P w = .ok () w) → (∀ w, (binOp op t a b).run P w = .ok v w) → d = .is v → K d H → Op1 P o E H K := by
    intro a b d v ha hb hg hr hd hk
    refine Op1.value (fun w L0 ε hi hx => ?_) hk
    have h1 := hx x (by simp [ho, Op.operands])
    have h2 := hx y (by simp [ho, Op.operands])
    rw [ha] at h1; rw [hb] at h2
    have h1' : ε x = a := h1
    have h2' : ε y = b := h2
    refine ⟨v, ?_, by subst hd; rfl⟩
    simp only [execOp, ho, h1', h2']
    rw [z'a (a := v) (w' := w) (by rw [z'a (hg w)]; exact hr w)]
    rfl
  unfold cBin at hk
  split at hk
  · rename_i k a k' b ha hb
    split at hk
    · rename_i hkk
      obtain rfl := Zb2 hkk
      have hg : ∀ w, (eqGuard op t x y (.int k a) (.int k b)).run P w = .ok () w := fun w => z'U trivial
      unfold cInt at hk
      cases op <;> simp only at hk
      all_goals first
        | exact hk.elim
        | exact fin _ _ _ _ ha hb hg (fun w => by simp only [binOp, ne_eq, not_true_eq_false, if_false, Op.intArith, Op.intCmp]; rfl) rfl hk
        | exact fin _ _ _ _ ha hb hg (fun w => by simp only [binOp, ne_eq, not_true_eq_false, if_false, Op.intDiv, hk.1]; rfl) rfl hk.2
    · exact hk.elim
  · rename_i a b ha hb
    have hg : ∀ w, (eqGuard op t x y (.string a) (.string b)).run P w = .ok () w := fun w => z'U trivial
    unfold cStr at hk
    cases op <;> simp only at hk
    all_goals first
      | exact hk.elim
      | (refine fin _ _ _ _ ha hb hg (fun w => ?_) rfl hk.2
         simp only [binOp, Op.stringOp]
         rw [if_neg (by have := hk.1; simp only [IntKind.max, IntKind.bits, IntKind.signed]; simp; omega)]
         rfl)
      | exact fin _ _ _ _ ha hb hg (fun w => by simp only [binOp, Op.stringOp, ZdN]; rfl) rfl hk
      | exact fin _ _ _ _ ha hb hg (fun w => by simp only [binOp, Op.stringOp, ByteArray.toList_eq]; rfl) rfl hk
  · rename_i a b ha hb
    have hg : ∀ w, (eqGuard op t x y (.bool a) (.bool b)).run P w = .ok () w := fun w => z'U trivial
    split at hk
    · rename_i hkd
      have hu := ZhI T hkd
      refine fin _ _ _ _ ha hb hg (fun w => ?_) rfl hk
      show (Op.equal t (.bool a) (.bool b) >>= fun r => pure (Value.bool r)).run P w = _
      rw [z'a (Zbr hu a b w)]
      rfl
    · rename_i hkd
      have hu := ZhI T hkd
      refine fin _ _ _ _ ha hb hg (fun w => ?_) rfl hk
      show (Op.equal t (.bool a) (.bool b) >>= fun r => pure (Value.bool (!r))).run P w = _
      rw [z'a (Zbr hu a b w)]
      rfl
    · exact hk.elim
  · exact hk.elim
def cUn (op:UnOp) (a:D) (K:D→Prop):Prop:=
 match op,a with
 | .not,.is (.bool b)=>K (.is (.bool !b))
 | .neg,.is (.int k n)=>K (.is (.int k (k.wrap (0-n))))
 |_,_=>False
theorem Znk {P:Program} {o:Oper} {E:Operand→D} {H:Heap} {K:D→Heap→Prop} {op:UnOp} {t:TypeId} {x:Operand} (ho:o.op= .unOp op t x) (hk:cUn op (E x) (K · H)):Op1 P o E H K:=by
 unfold cUn at hk
 split at hk
 ·rename_i b hx0
  refine Op1.value (d:= .is (.bool !b)) (fun w L0 ε hi hx=>⟨.bool !b,?_,rfl⟩) hk
  have h1:=hx x (by simp[ho,Op.operands])
  rw[hx0]at h1
  have h1':ε x= .bool b:=h1
  simp only[execOp,ho,h1']
  rfl
 ·rename_i k n hx0
  refine Op1.value (d:= .is (.int k (k.wrap (0-n)))) (fun w L0 ε hi hx=>⟨.int k (k.wrap (0-n)),?_,rfl⟩) hk
  have h1:=hx x (by simp[ho,Op.operands])
  rw[hx0]at h1
  have h1':ε x= .int k n:=h1
  simp only[execOp,ho,h1']
  rfl
 ·exact hk.elim
def y'Z:Heap→Nat→Option HC
 |[],_=>none
 |(k,c)::r,b=>bif k == b then some c else y'Z r b
def hset:Heap→Nat→HC→Heap
 |[],_,_=>[]
 |(k,c0)::r,b,c=>bif k == b then(k,c)::r else(k,c0)::hset r b c
theorem y'H: ∀{H:Heap} {b:Nat} {c:HC},y'Z H b=some c→(b,c)∈H
 |[],b,c,h=>by simp[y'Z]at h
 |(k,c0)::r,b,c,h=>by
  simp only[y'Z]at h
  by_cases e:k=b
  ·subst e;simp at h;subst h;exact z'k ..
  ·have:(k == b)=false:=by simpa using e
   rw[this]at h
   exact z'n _ (y'H h)
theorem y'1: ∀(H:Heap) (b:Nat) (c:HC),(hset H b c).blocks=H.blocks
 |[],b,c=>rfl
 |(k,c0)::r,b,c=>by
  simp only[hset]
  by_cases e:k=b
  ·have:(k == b)=true:=by simpa using e
   rw[this];rfl
  ·have:(k == b)=false:=by simpa using e
   rw[this]
   simp only[cond_false,Heap.blocks,z'g]
   congr 1
   exact y'1 r b c
theorem Zgz: ∀{H:Heap} {b:Nat} {c:HC} {k:Nat} {c':HC},H.blocks.Nodup→(k,c')∈hset H b c→(k=b∧c'=c)∨(k≠b∧(k,c')∈H)
 |[],b,c,k,c',_,h=>by simp[hset]at h
 |(k0,c0)::r,b,c,k,c',hn,h=>by
  simp only[Heap.blocks,z'g,y'm]at hn
  simp only[hset]at h
  by_cases e:k0=b
  ·have e':(k0 == b)=true:=by simpa using e
   rw[e']at h
   rcases z'p.1 h with h|h
   ·cases h;exact .inl ⟨e,rfl⟩
   ·refine .inr ⟨fun hk=>hn.1 ?_,z'n _ h⟩
    rw[e, ←hk];exact z'o.2 ⟨_,h,rfl⟩
  ·have e':(k0 == b)=false:=by simpa using e
   rw[e']at h
   rcases z'p.1 h with h|h
   ·cases h;exact .inr ⟨e,z'k ..⟩
   ·exact(Zgz hn.2 h).imp id fun⟨h1,h2⟩=>⟨h1,z'n _ h2⟩
theorem HInv.lt {w:World} {L0:Nat→Prop} {H:Heap} (hi:HInv w L0 H) {b:Nat} (hb:b∈H.blocks):b<w.heap.size:=by
 obtain⟨⟨b',c⟩,hm,rfl⟩:=z'o.1 hb
 have:=hi.rel _ _ hm
 cases c with
 |cells ty n l=>
  obtain⟨_,arr,h1,_⟩:=this
  rcases z't b' w.heap.size with h'|h'
  ·exact h'
  ·simp[y'e h']at h1
 |iter s pos=>
  rcases z't b' w.heap.size with h'|h'
  ·exact h'
  ·have h1:w.heap[b']?=_:=this
   simp[y'e h']at h1
 |obj o=>
  rcases z't b' w.heap.size with h'|h'
  ·exact h'
  ·have h1:w.heap[b']?=_:=this
   simp[y'e h']at h1
theorem w'9 {H H':Heap} (h:H'.blocks=H.blocks) (L0:Nat→Prop):live H' L0=live H L0:=by
 funext b;simp only[live,h]
theorem HInv.set {w w':World} {L0:Nat→Prop} {H:Heap} {b:Nat} {c:HC} (hi:HInv w L0 H) (hb:b∈H.blocks) (hs:w.heap.size≤w'.heap.size) (hk: ∀k,k≠b→k<w.heap.size→w'.heap[k]?=w.heap[k]?)
  (hr:HRel w' (live H L0) b c):HInv w' L0 (hset H b c):=by
 have hl:=w'9 (y'1 H b c) L0
 have keeps:Keeps w (live H L0) w' (live H L0):=fun k hk1 hn=>⟨hk k (fun e=>hn (.inr (e▸hb))) hk1,hn⟩
 refine{rel:=fun k c' hm=>?_,nodup:=by rw[y'1];exact hi.nodup,apart:=fun k hm=>hi.apart k (by rwa [y'1]at hm),old:=fun k h=>z'm (hi.old k h) hs}
 rw[hl]
 rcases Zgz hi.nodup hm with⟨rfl,rfl⟩|⟨hne,hm⟩
 ·exact hr
 ·exact(hi.rel k c' hm).mono keeps (hk k hne (hi.lt (z'o.2 ⟨_,hm,rfl⟩)))
theorem HInv.new {w w':World} {L0:Nat→Prop} {H:Heap} {c:HC} (hi:HInv w L0 H) (hs:w.heap.size≤w'.heap.size) (hk: ∀k,k<w.heap.size→w'.heap[k]?=w.heap[k]?)
  {b:Nat} (hb:w.heap.size≤b) (hr:HRel w' (live ((b,c)::H) L0) b c):HInv w' L0 ((b,c)::H):=by
 have keeps:Keeps w (live H L0) w' (live ((b,c)::H) L0):=fun k hk1 hn=>⟨hk k hk1,fun hl=>by
  rcases hl with hl|hl
  ·exact hn (.inl hl)
  ·simp only[Heap.blocks,z'g,z'p]at hl
   rcases hl with hl|hl
   ·omega
   ·exact hn (.inr hl)⟩
 have hne: ∀k,k∈H.blocks→k≠b:=fun k hm e=>by have:=hi.lt hm;omega
 refine{rel:=fun k c' hm=>?_,nodup:=?_,apart:=fun k hm=>?_,old:=fun k h=>z'm (hi.old k h) hs}
 ·rcases z'p.1 hm with hm|hm
  ·cases hm;exact hr
  ·exact(hi.rel k c' hm).mono keeps (hk k (hi.lt (z'o.2 ⟨_,hm,rfl⟩)))
 ·simp only[Heap.blocks,z'g,y'm]
  exact⟨fun hm=>hne b hm rfl,hi.nodup⟩
 ·simp only[Heap.blocks,z'g,z'p]at hm
  rcases hm with rfl|hm
  ·exact fun h=>by have:=hi.old _ h;omega
  ·exact hi.apart k hm
def cLoad (ty:TyI) (a:D) (H:Heap) (K:D→Prop):Prop:=
 match ty.known with
 |false=>False
 |true=>
  match a with
  | .is (.pointer (some ⟨b,o,none⟩))=>
   match y'Z H b with
   |some (.cells _ _ l)=>
    match ty.agg with
    |true=>o+ty.size≤l.length∧K (.agg ((l.drop o).take ty.size))
    |false=> ∃d,l[o]?=some d∧K d
   |_=>False
  | .pt row=>
   match ty.agg with
   |true=>ty.size≤row.length∧K (.agg (row.take ty.size))
   |false=> ∃d,row[0]?=some d∧K d
  |_=>False
theorem w'p {l:List D} (h:l.all oneD=true) (n:Nat):(l.take n).all oneD=true:=by
 rw[z'h]at h⊢
 exact fun x hx=>h x (y'L hx)
theorem w'o {l:List D} (h:l.all oneD=true) (n:Nat):(l.drop n).all oneD=true:=by
 rw[z'h]at h⊢
 exact fun x hx=>h x (List.mem_of_mem_drop hx)
theorem CellsAt.all {w:World} {L:Nat→Prop}: ∀(l:List D) (b o:Nat),CellsAt w L l b o→l.all oneD=true
 |[],_,_,_=>rfl
 |d::ds,b,o,h=>by
  rw[CellsAt]at h
  simp[h.2.1.1,CellsAt.all ds b (o+1) h.2.2]
theorem HRel.cell {w:World} {b n:Nat} {ty:TypeId} {l:List D} {L:Nat→Prop} (h:HRel w L b (.cells ty n l)) {o:Nat} {d:D} (hd:l[o]?=some d):
  ∃v,w.cell? ⟨b,o,none⟩=some v∧Rel w L d v:=by
 obtain⟨cs,h1,h2⟩:=HRel.cells h
 obtain⟨v,h3,h4⟩:=RelL.get _ _ h1 o d hd
 exact⟨v,h2 o v h3,h4⟩
theorem ZgP {P:Program} (T:Tab P) {o:Oper} {E:Operand→D} {H:Heap} {K:D→Heap→Prop} {t:TypeId} {x:Operand} (ho:o.op= .load t x) (hk:cLoad (T.get t) (E x) H (K · H)):Op1 P o E H K:=by
 have run: ∀(ε:Operand→Value) (w:World) (ad:Addr) (v:Value),ε x= .pointer (some ad)→(loadVar t ad).run P w= .ok v w→(execOp ε o).run P w= .ok (.value v) w:=by
  intro ε w ad v h1 h2
  simp only[execOp,ho,h1,Instr.loadAt]
  rw[z'a (a:=v) (w':=w) (by rw[z'a (a:=ad) (w':=w) rfl];exact h2)]
  rfl
 unfold cLoad at hk
 split at hk
 ·exact hk.elim
 rename_i hkn
 obtain⟨d,i,z,hu,hinfo,hz,hkd,hagg,hsz,hzl,hlen,_⟩:=T.facts hkn
 split at hk
 ·rename_i b off hx0
  split at hk
  ·rename_i ty n l hg
   have hm:=y'H hg
   split at hk
   ·rename_i hag
    obtain⟨hle,hk⟩:=hk
    refine Op1.value (fun w L0 ε hi hx=>?_) hk
    have h1:=hx x (by simp[ho,Op.operands])
    rw[hx0]at h1
    obtain⟨cs,h2,h3⟩:=HRel.cells (hi.rel _ _ hm)
    have h4:RelL w (live H L0) ((l.drop off).take (T.get t).size) ((cs.drop off).take (T.get t).size):=RelL.take _ _ _ (RelL.drop _ _ _ h2)
    have h5:=RelL.length _ _ h4
    refine⟨.agg ((cs.drop off).take (T.get t).size).toArray,run ε w _ _ h1 (w'M _ hu hinfo ?_ ?_ (by rw[hagg,hag])),?_,_,rfl,by simpa using h4⟩
    ·rw[hsz,h5,z'z,y'k];omega
    ·intro j v hv
     rw[y'v]at hv
     split at hv
     ·rw[z'7]at hv;exact h3 _ _ hv
     ·cases hv
    ·exact w'p (w'o (hi.rel _ _ hm).1 _) _
   ·rename_i hag
    obtain⟨d0,hd0,hk⟩:=hk
    refine Op1.value (fun w L0 ε hi hx=>?_) hk
    have h1:=hx x (by simp[ho,Op.operands])
    rw[hx0]at h1
    obtain⟨v,h2,h3⟩:=HRel.cell (hi.rel _ _ hm) hd0
    exact⟨v,run ε w _ _ h1 (w'5 hu h2 (by rw[hagg,hag])),h3⟩
  ·exact hk.elim
 ·rename_i row hx0
  split at hk
  ·rename_i hag
   obtain⟨hle,hk⟩:=hk
   refine Op1.value (fun w L0 ε hi hx=>?_) hk
   have h1:=hx x (by simp[ho,Op.operands])
   rw[hx0,Rel]at h1
   obtain⟨b,off,h1,h2⟩:=h1
   have h2':=CellsAt.take (T.get t).size _ _ _ h2
   obtain⟨cs,h4,h3⟩:=CellsAt.values _ _ _ h2'
   have h5:=RelL.length _ _ h4
   refine⟨.agg cs.toArray,run ε w _ _ h1 (w'M _ hu hinfo ?_ h3 (by rw[hagg,hag])),CellsAt.all _ _ _ h2',_,rfl,by simpa using h4⟩
   rw[hsz,h5,z'z];omega
  ·rename_i hag
   obtain⟨d0,hd0,hk⟩:=hk
   refine Op1.value (fun w L0 ε hi hx=>?_) hk
   have h1:=hx x (by simp[ho,Op.operands])
   rw[hx0,Rel]at h1
   obtain⟨b,off,h1,h2⟩:=h1
   obtain⟨_,_,v,h3,h4⟩:=CellsAt.get _ _ _ h2 0 d0 hd0
   exact⟨v,run ε w _ _ h1 (w'5 hu (by simpa using h3) (by rw[hagg,hag])),h4⟩
 ·exact hk.elim
def fieldAt (kd:Kd) (f:Nat):Option (Nat×Nat×Bool):=match kd with| .struct fs=>fs[f]?|_=>none
def kdT (ty:TyI):Kd:=match ty.known with|true=>ty.kd|false=> .other
theorem ZcB {P:Program} (T:Tab P) {t:TypeId} {f:Nat} {x:Nat×Nat×Bool} (h:fieldAt (kdT (T.get t)) f=some x):
  ∃fs fd,P.underlying t=some (.struct fs)∧fs[f]?=some fd∧fd.offset=x.1∧w'k P fd.type=x.2.1∧v'9 P fd.type=x.2.2∧x'b P fd.type=true:=by
 unfold kdT at h
 cases hkn:(T.get t).known with
 |false=>rw[hkn]at h;cases h
 |true=>
  rw[hkn]at h
  obtain⟨d,i,z,h1,h2,h3,h4,_⟩:=T.facts hkn
  simp only[h4]at h
  cases d with
  |struct fs=>
   simp only[y'0]at h
   cases hq:fs.toList.all (fun f=>x'b P f.type)with
   |false=>rw[hq]at h;simp[fieldAt]at h
   |true=>
   rw[hq]at h
   simp only[fieldAt]at h
   rw[y'c]at h
   cases hf:fs.toList[f]? with
   |none=>rw[hf]at h;cases h
   |some fd=>
    rw[hf]at h
    simp only[y'a,z'q]at h
    subst h
    exact⟨fs,fd,h1,by simpa using hf,rfl,rfl,rfl,by
     rw[z'h]at hq
     exact hq fd (z'F hf)⟩
  |slice e=>simp only[y'0]at h;cases hq:x'b P e<;>simp[hq,fieldAt]at h
  |array n e=>simp only[y'0]at h;cases hq:x'b P e<;>simp[hq,fieldAt]at h
  |_=>simp[y'0,fieldAt]at h
def cFieldAddr (f:Option (Nat×Nat×Bool)) (a:D) (K:D→Prop):Prop:=
 match f with
 |some (off,sz,_)=>
  match sz with
  |0=>False
  |_+1=>
   match a with
   | .is (.pointer (some ⟨b,o,none⟩))=>K (.is (.pointer (some ⟨b,o+off,none⟩)))
   | .pt row=>K (.pt (row.drop off))
   |_=>False
 |none=>False
theorem Zdj {P:Program} (T:Tab P) {o:Oper} {E:Operand→D} {H:Heap} {K:D→Heap→Prop} {t:TypeId} {x:Operand} {f:Nat} (ho:o.op= .fieldAddr t x f)
  (hk:cFieldAddr (fieldAt (kdT (T.get t)) f) (E x) (K · H)):Op1 P o E H K:=by
 unfold cFieldAddr at hk
 split at hk
 ·rename_i off sz ag hf
  obtain⟨fs,fd,hu,hfd,h1,h2,h3,h3'⟩:=ZcB T hf
  clear h3 h3'
  simp only at h1 h2
  split at hk
  ·exact hk.elim
  ·rename_i sz
   have run: ∀(ε:Operand→Value) (w:World) (b a:Nat),ε x= .pointer (some ⟨b,a,none⟩)→(execOp ε o).run P w= .ok (.value (.pointer (some ⟨b,a+off,none⟩))) w:=by
    intro ε w b a hx
    have hi: ∃i,P.info? fd.type=some i∧i.size=sz+1:=by
     unfold w'k at h2
     cases hi:P.info? fd.type with
     |none=>rw[hi]at h2;simp at h2
     |some i=>rw[hi]at h2;exact⟨i,rfl,by simpa using h2⟩
    obtain⟨i,hi,hs⟩:=hi
    simp only[execOp,ho,hx,Instr.fieldAt]
    refine(z'a (a:= .pointer (some ⟨b,a+off,none⟩)) (w':=w) ?_).trans rfl
    rw[z'a (run_underlying hu w)]
    simp only[hfd]
    refine(z'a (a:=(⟨b,a,none⟩:Addr)) (w':=w) rfl).trans ?_
    refine(z'a (a:=(⟨b,a+off,none⟩:Addr)) (w':=w) ?_).trans rfl
    unfold fieldPlace
    rw[z'a (x'X hi w),hs,if_neg (by omega),h1,w'm]
    rfl
   split at hk
   ·rename_i b a hx0
    refine Op1.value (d:= .is (.pointer (some ⟨b,a+off,none⟩))) (fun w L0 ε hi hx=>?_) hk
    have h1:=hx x (by simp[ho,Op.operands])
    rw[hx0]at h1
    exact⟨_,run ε w b a h1,rfl⟩
   ·rename_i row hx0
    refine Op1.value (d:= .pt (row.drop off)) (fun w L0 ε hi hx=>?_) hk
    have h1:=hx x (by simp[ho,Op.operands])
    rw[hx0,Rel]at h1
    obtain⟨b,a,h1,h2⟩:=h1
    exact⟨_,run ε w b a h1,b,a+off,rfl,CellsAt.drop _ _ _ _ h2⟩
   ·exact hk.elim
 ·exact hk.elim
def cIndexAddr (kd:Kd) (x i:D) (K:D→Prop):Prop:=
 match kd,i with
 | .slice _ esz _ _ _,.is (.int _ n)=>
  match x with
  | .sl _ esz' rows=>(0≤n∧n<rows.length)∧ ∃r,rows[n.toNat]?=some r∧esz'=esz∧K (.pt r)
  | .gs (some (b,cap)) len=>(0≤n∧n<len)∧K (.is (.pointer (some ⟨b,n.toNat*esz,none⟩)))
  |_=>False
 |_,_=>False
theorem y'J {P:Program} (T:Tab P) {t e:TypeId} {esz eb:Nat} {ea:Bool} {ez:List Value} (h:kdT (T.get t)= .slice e esz eb ea ez):
  P.underlying t=some (.slice e)∧x'b P e=true∧w'k P e=esz∧Zic P e=eb∧v'9 P e=ea∧ZaL P e=ez:=by
 unfold kdT at h
 cases hkn:(T.get t).known with
 |false=>rw[hkn]at h;cases h
 |true=>
  rw[hkn]at h
  obtain⟨d,i,z,h1,h2,h3,h4,_⟩:=T.facts hkn
  simp only[h4]at h
  cases d with
  |slice e'=>
   simp only[y'0]at h
   cases hq:x'b P e' with
   |false=>simp[hq]at h
   |true=>
    simp only[hq,Kd.slice.injEq]at h
    obtain⟨rfl,rfl,rfl,rfl,rfl⟩:=h
    exact⟨h1,hq,rfl,rfl,rfl,rfl⟩
  |array n e=>simp only[y'0]at h;cases hq:x'b P e<;>simp[hq]at h
  |struct fs=>simp only[y'0]at h;split at h<;>cases h
  |_=>simp[y'0]at h
theorem Zdk {P:Program} (T:Tab P) {o:Oper} {E:Operand→D} {H:Heap} {K:D→Heap→Prop} {t:TypeId} {x i:Operand} (ho:o.op= .indexAddr t x i)
  (hk:cIndexAddr (kdT (T.get t)) (E x) (E i) (K · H)):Op1 P o E H K:=by
 unfold cIndexAddr at hk
 split at hk
 ·rename_i e esz eb ea ez ik n hkd hi0
  obtain⟨hu,hkn,hsz,_⟩:=y'J T hkd
  obtain⟨d,inf,z,h1,h2,h3,h4,_⟩:=y'g hkn
  rw[hsz]at h4
  have run: ∀(ε:Operand→Value) (w:World) (b a len cap:Nat),ε x= .slice (some ⟨b,a,none⟩) len cap→ε i= .int ik n→0≤n→n<len→
    (execOp ε o).run P w= .ok (.value (.pointer (some ⟨b,a+n.toNat*esz,none⟩))) w:=by
   intro ε w b a len cap hx hi hn1 hn2
   simp only[execOp,ho,hx,hi,Instr.indexAt]
   refine(z'a (a:= .pointer (some ⟨b,a+n.toNat*esz,none⟩)) (w':=w) ?_).trans rfl
   refine(z'a (a:=(ik,n)) (w':=w) rfl).trans ?_
   simp only
   rw[z'a (run_underlying hu w)]
   simp only
   refine(z'a (a:=(some (⟨b,a,none⟩:Addr),len,e)) (w':=w) rfl).trans ?_
   simp only
   rw[z'a (run_underlying hu w)]
   simp only
   rw[if_pos ⟨hn1,hn2⟩,z'a (x'X h2 w),h4,w'm]
   rfl
  split at hk
  ·rename_i full esz' rows hx0
   obtain⟨⟨hn1,hn2⟩,r,hr,rfl,hk⟩:=hk
   refine Op1.value (d:= .pt r) (fun w L0 ε hi hx=>?_) hk
   have h1:=hx x (by simp[ho,Op.operands])
   have h2:=hx i (by simp[ho,Op.operands])
   rw[hx0,Rel]at h1
   rw[hi0]at h2
   obtain⟨a,cap,hv,_,_,hrows⟩:=h1
   rcases hrows with h|⟨b,off,rfl,hrows⟩
   ·subst h;simp at hr
   ·obtain⟨_,hc⟩:=RowsAt.get _ _ _ hrows n.toNat r hr
    exact⟨_,run ε w b off _ cap hv h2 hn1 hn2,b,_,rfl,hc⟩
  ·rename_i b cap len hx0
   obtain⟨⟨hn1,hn2⟩,hk⟩:=hk
   refine Op1.value (d:= .is (.pointer (some ⟨b,n.toNat*esz,none⟩))) (fun w L0 ε hi hx=>?_) hk
   have h1:=hx x (by simp[ho,Op.operands])
   have h2:=hx i (by simp[ho,Op.operands])
   rw[hx0,Rel]at h1
   rw[hi0]at h2
   refine⟨_,run ε w b 0 len cap h1.1 h2 hn1 hn2,?_⟩
   rw[y'd];rfl
  ·exact hk.elim
 ·exact hk.elim
def cExtract (x:D) (i:Nat) (K:D→Prop):Prop:=
 match x with
 | .tup l=> ∃d,l[i]?=some d∧K d
 |_=>False
theorem Zfk {P:Program} {o:Oper} {E:Operand→D} {H:Heap} {K:D→Heap→Prop} {x:Operand} {i:Nat} (ho:o.op= .extract x i) (hk:cExtract (E x) i (K · H)):Op1 P o E H K:=by
 unfold cExtract at hk
 split at hk
 ·rename_i l hx0
  obtain⟨d,hd,hk⟩:=hk
  refine Op1.value (d:=d) (fun w L0 ε hi hx=>?_) hk
  have h1:=hx x (by simp[ho,Op.operands])
  rw[hx0,Rel]at h1
  obtain⟨cs,h1,h2⟩:=h1
  obtain⟨v,h3,h4⟩:=RelL.get _ _ h2 i d hd
  refine⟨v,?_,h4⟩
  have h3':cs[i]?=some v:=by simpa using h3
  simp only[execOp,ho,h1,Instr.extract,h3']
  rfl
 ·exact hk.elim
def cNil (x:D) (K:D→Prop):Prop:=
 match x with
 | .is (.pointer (some a))=>K x
 | .pt row=>K x
 | .ifc t d=>K x
 |_=>False
def cellsD:D→Option (List D)
 | .agg l=>some l
 | .is (.agg _)=>none
 | .tup _| .any=>none
 |d=>some [d]
def setL:List D→Nat→List D→List D
 |cells,_,[]=>cells
 |cells,off,c::cs=>setL (cells.set off c) (off+1) cs
def x'm:List Value→Nat→List Value→List Value
 |cells,_,[]=>cells
 |cells,off,c::cs=>x'm (cells.set off c) (off+1) cs
theorem v'r: ∀(cs vs:List Value) (off:Nat),(x'm vs off cs).length=vs.length
 |[],vs,off=>rfl
 |c::cs,vs,off=>by rw[x'm,v'r cs];simp
theorem Zbc: ∀(cs vs:List D) (off:Nat),(setL vs off cs).length=vs.length
 |[],vs,off=>rfl
 |c::cs,vs,off=>by rw[setL,Zbc cs];simp
theorem RelL.setL {w:World} {L:Nat→Prop}: ∀(cs:List D) (us:List Value) (l:List D) (vs:List Value) (off:Nat),RelL w L l vs→RelL w L cs us→RelL w L (Vc.setL l off cs) (x'm vs off us)
 |[],us,l,vs,off,h,h'=>by rw[RelL]at h';subst h';exact h
 |d::ds,us,l,vs,off,h,h'=>by
  rw[RelL]at h'
  obtain⟨v,r,rfl,h1,h2⟩:=h'
  exact RelL.setL ds r _ _ (off+1) (RelL.set off _ _ _ _ h h1) h2
theorem Za5 {w:World} {L:Nat→Prop} {d:D} {c:List D} {v:Value} (h:cellsD d=some c) (hr:Rel w L d v):RelL w L c v.cells.toList:=by
 cases d with
 |is u=>
  rw[Rel]at hr;subst hr
  cases v<;>simp only[cellsD]at h<;>cases h<;>exact⟨_,[],rfl,rfl,rfl⟩
 |sl full esz rows=>simp only[cellsD,z'q]at h;subst h;have hr':=hr;rw[Rel]at hr;obtain⟨a,cap,rfl,_⟩:=hr;exact⟨_,[],rfl,hr',rfl⟩
 |pt row=>simp only[cellsD,z'q]at h;subst h;have hr':=hr;rw[Rel]at hr;obtain⟨b,o,rfl,_⟩:=hr;exact⟨_,[],rfl,hr',rfl⟩
 |agg l=>simp only[cellsD,z'q]at h;subst h;rw[Rel]at hr;obtain⟨_,cs,rfl,hr⟩:=hr;exact hr
 |tup l=>cases h
 |ifc t d=>simp only[cellsD,z'q]at h;subst h;have hr':=hr;rw[Rel]at hr;obtain⟨x,rfl,_⟩:=hr;exact⟨_,[],rfl,hr',rfl⟩
 |gs g n=>simp only[cellsD,z'q]at h;subst h;have hr':=hr;rw[Rel]at hr;obtain⟨rfl,_⟩:=hr;cases g<;>exact⟨_,[],rfl,hr',rfl⟩
 |os b o n cap=>simp only[cellsD,z'q]at h;subst h;have hr':=hr;rw[Rel]at hr;obtain⟨o',rfl,_⟩:=hr;exact⟨_,[],rfl,hr',rfl⟩
 |any=>cases h
def v'I (place:Nat→Option (Nat×Nat)):List D→List (Nat×D)→Option (List D)
 |cells,[]=>some cells
 |cells,(i,d)::rest=>
  match place i,cellsD d with
  |some (off,sz),some c=>match c.length == sz&&Nat.ble (off+sz) cells.length with
   |true=>v'I place (setL cells off c) rest
   |false=>none
  |_,_=>none
theorem Zdg (off:Nat): ∀(cs:List Value) (j:Nat) (a:Array Value),((cs.zipIdx j).foldl (fun(x:Array Value) (p:Value×Nat)=>x.setIfInBounds (off+p.2) p.1) a).toList=x'm a.toList (off+j) cs
 |[],j,a=>rfl
 |c::cs,j,a=>by
  rw[List.zipIdx_cons,List.foldl_cons,Zdg off cs (j+1)]
  simp only[x'm,Array.toList_setIfInBounds]
  rfl
theorem ZaR {w:World} {L:Nat→Prop} {place:Nat→Option (Nat×Nat)} {E:Operand→D} {ε:Operand→Value}: ∀(ps:List (Nat×Operand)) (l:List D) (a:Array Value) (l':List D),
  (∀i x,(i,x)∈ps→Rel w L (E x) (ε x))→v'I place l (ps.map fun p=>(p.1,E p.2))=some l'→RelL w L l a.toList→
  ∃a',Instr.fill place a (ps.map fun p=>(p.1,ε p.2))=some a'∧RelL w L l' a'.toList∧a'.size=a.size
 |[],l,a,l',hv,h,hr=>by
  simp only[y'o,v'I,z'q]at h;subst h;exact⟨a,rfl,hr,rfl⟩
 |(i,x)::ps,l,a,l',hv,h,hr=>by
  simp only[z'g,v'I]at h
  split at h
  ·rename_i off sz c hp hc
   split at h
   ·rename_i hb
    simp only[z'b,beq_iff_eq,Nat.ble_eq]at hb
    have hcv:=Za5 hc (hv i x (z'k ..))
    have hlen:=RelL.length _ _ hcv
    have hlen2:=RelL.length _ _ hr
    have e:((ε x).cells.zipIdx.foldl (fun cs (p:Value×Nat)=>cs.setIfInBounds (off+p.2) p.1) a).toList=x'm a.toList off (ε x).cells.toList:=by
     rw[←Array.foldl_toList,Array.toList_zipIdx,Zdg]
     simp
    have hset:RelL w L (setL l off c) ((ε x).cells.zipIdx.foldl (fun cs (p:Value×Nat)=>cs.setIfInBounds (off+p.2) p.1) a).toList:=by
     rw[e]
     exact RelL.setL _ _ _ _ _ hr hcv
    obtain⟨a',h1,h2,h3⟩:=ZaR ps _ _ l' (fun i x hm=>hv i x (z'n _ hm)) h hset
    refine⟨a',?_,h2,?_⟩
    ·simp only[z'g,Instr.fill,hp]
     rw[if_neg]
     ·exact h1
     ·simp only[z'C]at hlen hlen2
      have:=hb.1;have:=hb.2
      simp only[ne_eq,gt_iff_lt,y'O,decide_eq_true_eq]
      omega
    ·rw[h3, ←Array.length_toList,e,v'r,z'C]
   ·cases h
  ·cases h
theorem Zel {P:Program} {w:World}: ∀(fs:List Field),fs.all (fun f=>x'b P f.type)=true→
  (fs.mapM fun f=>do pure (f.offset, ←sizeOf f.type):Sem (List (Nat×Nat))).run P w= .ok (fs.map fun f=>(f.offset,w'k P f.type)) w
 |[],_=>rfl
 |f::r,h=>by
  simp only[y'b,z'b]at h
  obtain⟨_,i,_,_,hi,_⟩:=y'g h.1
  rw[x'n,z'a (a:=(f.offset,w'k P f.type)) (w':=w),z'a (Zel r h.2)]
  ·rfl
  ·rw[z'a (x'X hi w)]
   simp[w'k,hi]
theorem w'D (w:World) (L:Nat→Prop): ∀l:List Value,RelL w L (l.map constD) l
 |[]=>rfl
 |v::r=>⟨v,r,rfl,v'd w L v,w'D w L r⟩
def cBuild (ty:TyI) (parts:List (Nat×D)) (K:D→Prop):Prop:=
 match kdT ty with
 | .struct fs=>
  match v'I (fun i=>(fs[i]?).map fun x=>(x.1,x.2.1)) (ty.zero.map constD) parts with
  |some l=>l.all oneD=true∧K (.agg l)
  |none=>False
 |_=>False
theorem ZhQ {P:Program} (T:Tab P) {o:Oper} {E:Operand→D} {H:Heap} {K:D→Heap→Prop} {t:TypeId} {ps:List (Nat×Operand)} (ho:o.op= .build t ps.toArray)
  (hk:cBuild (T.get t) (ps.map fun p=>(p.1,E p.2)) (K · H)):Op1 P o E H K:=by
 unfold cBuild at hk
 split at hk
 ·rename_i fs hkd
  split at hk
  ·rename_i l hl
   obtain⟨hone,hk⟩:=hk
   have hkn:(T.get t).known=true:=by
    unfold kdT at hkd
    cases h:(T.get t).known with
    |true=>rfl
    |false=>rw[h]at hkd;cases hkd
   obtain⟨d,inf,z,hu,hinf,hz,hkd',hagg,hsz,hzl,hlen,_⟩:=T.facts hkn
   have hstruct: ∃F,d= .struct F∧F.toList.all (fun f=>x'b P f.type)=true∧fs=F.toList.map fun f=>(f.offset,w'k P f.type,v'9 P f.type):=by
    simp only[kdT,hkn]at hkd
    rw[hkd]at hkd'
    cases d with
    |struct F=>
     simp only[y'0]at hkd'
     cases hq:F.toList.all (fun f=>x'b P f.type)with
     |false=>rw[hq]at hkd';cases hkd'
     |true=>rw[hq]at hkd';simp only[Kd.struct.injEq]at hkd';exact⟨F,rfl,hq,hkd'⟩
    |slice e=>simp only[y'0]at hkd';cases hq:x'b P e<;>simp[hq]at hkd'
    |array n e=>simp only[y'0]at hkd';cases hq:x'b P e<;>simp[hq]at hkd'
    |_=>simp[y'0]at hkd'
   obtain⟨F,rfl,hall,hfs⟩:=hstruct
   refine Op1.value (d:= .agg l) (fun w L0 ε hi hx=>?_) hk
   have hmem: ∀i x,(i,x)∈ps→Rel w (live H L0) (E x) (ε x):=fun i x hm=>hx x (by
    simp only[ho,Op.operands,List.mem_toArray,z'o]
    exact⟨(i,x),hm,rfl⟩)
   obtain⟨a',h1,h2,_⟩:=ZaR (ε:=ε) ps _ z.cells l hmem hl (by rw[hzl];exact w'D _ _ _)
   refine⟨.agg a',?_,hone,_,rfl,h2⟩
   simp only[execOp,ho,Instr.build]
   refine(z'a (a:= .agg a') (w':=w) ?_).trans rfl
   refine(z'a (a:=z) (w':=w) (by unfold zeroValue;rw[z'a (w'x hinf w),hz];rfl)).trans ?_
   rw[z'a (run_underlying hu w)]
   simp only
   have hpl:(F.mapM fun f=>do pure (f.offset, ←sizeOf f.type):Sem (Array (Nat×Nat))).run P w= .ok (F.toList.map fun f=>(f.offset,w'k P f.type)).toArray w:=by
    rw[Array.mapM_eq_mapM_toList,map_eq_pure_bind]
    exact(z'a (f:=fun a=>pure a.toArray) (Zel F.toList hall)).trans rfl
   rw[z'a hpl]
   have hplace:(fun(i:Nat)=>(F.toList.map fun f=>(f.offset,w'k P f.type)).toArray[i]?)=fun(i:Nat)=>(fs[i]?).map fun(x:Nat×Nat×Bool)=>(x.1,x.2.1):=by
    funext i
    simp only[hfs,y'U,y'c,Option.map_map]
    rfl
   rw[hplace]
   simp only[List.map_toArray,h1]
   rfl
  ·exact hk.elim
 ·exact hk.elim
theorem Zly {P:Program} {o:Oper} {E:Operand→D} {H:Heap} {K:D→Heap→Prop} {x:Operand} (ho:o.op= .nilCheck x) (hk:cNil (E x) (K · H)):Op1 P o E H K:=by
 have h:K (E x) H∧((∃a,E x= .is (.pointer (some a)))∨(∃r,E x= .pt r)∨ ∃t d,E x= .ifc t d):=by
  unfold cNil at hk
  split at hk
  ·rename_i a he;exact⟨hk,.inl ⟨a,he⟩⟩
  ·rename_i r he;exact⟨hk,.inr (.inl ⟨r,he⟩)⟩
  ·rename_i t d he;exact⟨hk,.inr (.inr ⟨t,d,he⟩)⟩
  ·exact hk.elim
 refine Op1.value (d:=E x) (fun w L0 ε hi hx=>?_) h.1
 have h1:=hx x (by simp[ho,Op.operands])
 refine⟨ε x,?_,h1⟩
 rcases h.2 with⟨a,e⟩|⟨r,e⟩|⟨t,d,e⟩
 ·rw[e]at h1
  have h1':ε x= .pointer (some a):=h1
  simp only[execOp,ho,h1']
  rfl
 ·rw[e,Rel]at h1
  obtain⟨b,off,h1,_⟩:=h1
  simp only[execOp,ho,h1]
  rfl
 ·rw[e,Rel]at h1
  obtain⟨y,h1,_⟩:=h1
  simp only[execOp,ho,h1]
  rfl
def cField (f:Option (Nat×Nat×Bool)) (x:D) (K:D→Prop):Prop:=
 match f,x with
 |some (off,sz,true),.agg l=>off+sz≤l.length∧K (.agg ((l.drop off).take sz))
 |some (off,_,false),.agg l=> ∃d,l[off]?=some d∧K d
 |_,_=>False
def cLen (kd:Kd) (x:D) (K:D→Prop):Prop:=
 match kd,x with
 | .slice ..,.sl _ _ rows=>K (.is (.int .i64 rows.length))
 | .slice ..,.gs _ n=>K (.is (.int .i64 n))
 | .slice ..,.os _ _ n _=>K (.is (.int .i64 n))
 | .slice ..,.is (.slice _ n _)=>K (.is (.int .i64 n))
 | .str,.is (.string s)=>K (.is (.int .i64 s.size))
 |_,_=>False
theorem v'W {P:Program} (T:Tab P) {t:TypeId} (h:kdT (T.get t)= .str):P.underlying t=some .string:=by
 unfold kdT at h
 cases hkn:(T.get t).known with
 |false=>rw[hkn]at h;cases h
 |true=>
  rw[hkn]at h
  obtain⟨d,i,z,h1,h2,h3,h4,_⟩:=T.facts hkn
  simp only[h4]at h
  cases d with
  |slice e=>simp only[y'0]at h;cases hq:x'b P e<;>simp[hq]at h
  |array n e=>simp only[y'0]at h;cases hq:x'b P e<;>simp[hq]at h
  |struct fs=>simp only[y'0]at h;split at h<;>cases h
  |string=>exact h1
  |_=>simp[y'0]at h
theorem Zed {P:Program} (T:Tab P) {t:TypeId} {k:IntKind} (h:kdT (T.get t)= .int k):P.underlying t=some (.int k):=by
 unfold kdT at h
 cases hkn:(T.get t).known with
 |false=>rw[hkn]at h;cases h
 |true=>
  rw[hkn]at h
  obtain⟨d,i,z,h1,h2,h3,h4,_⟩:=T.facts hkn
  simp only[h4]at h
  cases d with
  |slice e=>simp only[y'0]at h;cases hq:x'b P e<;>simp[hq]at h
  |array n e=>simp only[y'0]at h;cases hq:x'b P e<;>simp[hq]at h
  |struct fs=>simp only[y'0]at h;split at h<;>cases h
  |int j=>simp only[y'0,Kd.int.injEq]at h;subst h;exact h1
  |_=>simp[y'0]at h
theorem Zbb {P:Program} {ε:Operand→Value} {o:Oper} {b:Builtin} {as:Array Operand} {tys:Array TypeId} {s:Sem Value} {v:Value} {w w':World}
  (ho:o.op= .call ⟨.builtin b,as,tys⟩) (hb:builtin b tys o.type (as.map fun| .const _=>true|_=>false) (as.map ε)=(do pure (.value (←s))))
  (h:s.run P w= .ok v w'):(execOp ε o).run P w= .ok (.value v) w':=by
 simp only[execOp,ho,resolve,invoke]
 rw[z'a (a:={target:= .builtin b tys o.type (as.map fun| .const _=>true|_=>false),args:=as.map ε}) (w':=w) rfl]
 simp only
 rw[hb,z'a h]
 rfl
theorem v'X {P:Program} {t e:TypeId} (hu:P.underlying t=some (.slice e)) (y:TypeId) (a:Option Addr) (n cap:Nat) (w:World):(Builtin.len_ #[t] y #[.slice a n cap]).run P w= .ok (.int .i64 n) w:=by
 simp only[Builtin.len_,y'U,y'Q]
 rw[z'a (run_underlying hu w)]
 rfl
theorem ZiR {P:Program} (T:Tab P) {o:Oper} {E:Operand→D} {H:Heap} {K:D→Heap→Prop} {x:Operand} {t:TypeId} (ho:o.op= .call ⟨.builtin .len, #[x], #[t]⟩)
  (hk:cLen (kdT (T.get t)) (E x) (K · H)):Op1 P o E H K:=by
 have run: ∀(w:World) (ε:Operand→Value) (v:Value) (n:Nat),ε x=v→(∀y,(Builtin.len_ #[t] y #[v]).run P w= .ok (.int .i64 n) w)→(execOp ε o).run P w= .ok (.value (.int .i64 n)) w:=by
  intro w ε v n h1 h2
  exact Zbb ho (s:=Builtin.len_ #[t] o.type (#[x].map ε)) rfl (by have:=h2 o.type;rw[←h1]at this;simpa using this)
 unfold cLen at hk
 split at hk
 ·rename_i e esz eb ea ez full esz' rows hkd hx0
  obtain⟨hu,_⟩:=y'J T hkd
  refine Op1.value (d:= .is (.int .i64 rows.length)) (fun w L0 ε hi hx=>?_) hk
  have h1:=hx x (by simp[ho,Op.operands,Call.operands])
  rw[hx0,Rel]at h1
  obtain⟨a,cap,h1,_⟩:=h1
  exact⟨_,run w ε _ rows.length h1 (fun y=>v'X hu y _ _ _ w),rfl⟩
 ·rename_i e esz eb ea ez g n hkd hx0
  obtain⟨hu,_⟩:=y'J T hkd
  refine Op1.value (d:= .is (.int .i64 n)) (fun w L0 ε hi hx=>?_) hk
  have h1:=hx x (by simp[ho,Op.operands,Call.operands])
  rw[hx0,Rel]at h1
  cases g with
  |none=>
   obtain rfl:n=0:=h1.2
   exact⟨_,run w ε _ 0 h1.1 (fun y=>v'X hu y _ _ _ w),rfl⟩
  |some g=>exact⟨_,run w ε _ n h1.1 (fun y=>v'X hu y _ _ _ w),rfl⟩
 ·rename_i e esz eb ea ez b off n cap hkd hx0
  obtain⟨hu,_⟩:=y'J T hkd
  refine Op1.value (d:= .is (.int .i64 n)) (fun w L0 ε hi hx=>?_) hk
  have h1:=hx x (by simp[ho,Op.operands,Call.operands])
  rw[hx0,Rel]at h1
  obtain⟨o',h1,_⟩:=h1
  exact⟨_,run w ε _ n h1 (fun y=>v'X hu y _ _ _ w),rfl⟩
 ·rename_i e esz eb ea ez a n cap hkd hx0
  obtain⟨hu,_⟩:=y'J T hkd
  refine Op1.value (d:= .is (.int .i64 n)) (fun w L0 ε hi hx=>?_) hk
  have h1:=hx x (by simp[ho,Op.operands,Call.operands])
  rw[hx0,Rel]at h1
  exact⟨_,run w ε _ n h1 (fun y=>v'X hu y _ _ _ w),rfl⟩
 ·rename_i s hkd hx0
  have hu:=v'W T hkd
  refine Op1.value (d:= .is (.int .i64 s.size)) (fun w L0 ε hi hx=>?_) hk
  have h1:=hx x (by simp[ho,Op.operands,Call.operands])
  rw[hx0,Rel]at h1
  exact⟨_,run w ε _ s.size h1 (fun y=>by
   simp only[Builtin.len_,y'U,y'Q]
   rw[z'a (run_underlying hu w)];rfl),rfl⟩
 ·exact hk.elim
theorem x'u (w:World) (o:Obj) (k:Nat) (h:k<w.heap.size):(w.alloc o).heap[k]?=w.heap[k]?:=by
 show(w.heap.push o)[k]?=_
 rw[Array.getElem?_push,if_neg (by omega)]
theorem ZaQ (w:World) (H:Heap) (o:Obj) (c:HC):Evo w H (w.alloc o) ((w.heap.size,c)::H):=
 ⟨rfl,rfl,rfl,by simp,fun b hb _=>x'u w o b hb,fun b hb=>by
  simp only[Heap.blocks,z'g,z'p]at hb
  rcases hb with rfl|hb
  ·exact .inr (z'c _)
  ·exact .inl hb⟩
theorem Op1.new {P:Program} {o:Oper} {E:Operand→D} {H:Heap} {K:D→Heap→Prop} (cells:List D) (ty:TypeId) (n:Nat) (mk:Nat→Value) (d:Nat→D)
  (hd: ∀w L b,Rel w L (d b) (mk b)) (hone:cells.all oneD=true)
  (h: ∀(w:World) (L0:Nat→Prop) (ε:Operand→Value),HInv w L0 H→(∀x,x∈o.op.operands→Rel w (live H L0) (E x) (ε x))→
   ∃arr,(execOp ε o).run P w= .ok (.value (mk w.heap.size)) (w.alloc (.cells arr ty))∧arr.size=n∧RelL w (live H L0) cells (arr.toList.take cells.length))
  (hk: ∀b,b∉H.blocks→K (d b) ((b,.cells ty n cells)::H)):Op1 P o E H K:=by
 refine⟨fun d' H'=> ∃b,b∉H.blocks∧d'=d b∧H'=(b,.cells ty n cells)::H,?_,fun d' H' ⟨b,h1,h2,h3⟩=>h2▸h3▸hk b h1⟩
 intro w L0 ε hi hx
 obtain⟨arr,hr,hn,hrel⟩:=h w L0 ε hi hx
 rw[hr]
 have hnew:(w.alloc (.cells arr ty)).heap[w.heap.size]?=some (.cells arr ty):=heap_alloc_new w _
 have hevo:=ZaQ w H (.cells arr ty) (.cells ty n cells)
 refine⟨d w.heap.size,_,⟨w.heap.size,fun hm=>by have:=hi.lt hm;omega,rfl,rfl⟩,hd _ _ _,?_,hevo⟩
 exact HInv.new hi (by simp) (fun k hk=>x'u w _ k hk) (z'c _) ⟨hone,arr,hnew,hn,RelL.mono hevo.keeps _ _ hrel⟩
def cAlloc (t:TypeId) (ty:TyI) (H:Heap) (K:D→Heap→Prop):Prop:=
 match ty.known with
 |true=>(ty.zero.map constD).all oneD=true∧ ∀b,b∉H.blocks→K (.is (.pointer (some ⟨b,0,none⟩))) ((b,.cells t ty.zero.length (ty.zero.map constD))::H)
 |false=>False
theorem ZhP {P:Program} (T:Tab P) {o:Oper} {E:Operand→D} {H:Heap} {K:D→Heap→Prop} {t:TypeId} (ho:o.op= .alloc t) (hk:cAlloc t (T.get t) H K):Op1 P o E H K:=by
 unfold cAlloc at hk
 split at hk
 ·rename_i hkn
  obtain⟨d,inf,z,hu,hinf,hz,_,_,hsz,hzl,hlen,_⟩:=T.facts hkn
  refine Op1.new ((T.get t).zero.map constD) t (T.get t).zero.length (fun b=> .pointer (some ⟨b,0,none⟩)) (fun b=> .is (.pointer (some ⟨b,0,none⟩))) (fun _ _ _=>rfl) hk.1 (fun w L0 ε hi hx=>?_) hk.2
  refine⟨z.cells,?_,by rw[←hzl,z'C],?_⟩
  ·simp only[execOp,ho,Instr.alloc]
   refine(z'a (a:= .pointer (some ⟨w.heap.size,0,none⟩)) (w':=w.alloc (.cells z.cells t)) ?_).trans rfl
   refine(z'a (a:=z) (w':=w) (by unfold zeroValue;rw[z'a (w'x hinf w),hz];rfl)).trans ?_
   rfl
  ·rw[z'f, ←hzl,List.take_length]
   exact w'D _ _ _
 ·exact hk.elim
def cBox (t:TypeId) (x:D) (H:Heap) (K:D→Heap→Prop):Prop:=
 match cellsD x with
 |some l=>l.all oneD=true∧ ∀b,b∉H.blocks→K (.is (.pointer (some ⟨b,0,none⟩))) ((b,.cells t l.length l)::H)
 |none=>False
theorem Zlw {P:Program} {o:Oper} {E:Operand→D} {H:Heap} {K:D→Heap→Prop} {t:TypeId} {x:Operand} (ho:o.op= .box t x) (hk:cBox t (E x) H K):Op1 P o E H K:=by
 unfold cBox at hk
 split at hk
 ·rename_i l hl
  refine Op1.new l t l.length (fun b=> .pointer (some ⟨b,0,none⟩)) (fun b=> .is (.pointer (some ⟨b,0,none⟩))) (fun _ _ _=>rfl) hk.1 (fun w L0 ε hi hx=>?_) hk.2
  have h1:=Za5 hl (hx x (by simp[ho,Op.operands]))
  have h2:=RelL.length _ _ h1
  refine⟨(ε x).cells,?_,by rw[←h2,z'C],by rw[←h2,List.take_length];exact h1⟩
  simp only[execOp,ho,Instr.box]
  rfl
 ·exact hk.elim
def cStore (sz:Nat) (a x:D) (H:Heap) (K:D→Heap→Prop):Prop:=
 match a,cellsD x with
 | .is (.pointer (some ⟨b,o,none⟩)),some c=>
  match y'Z H b with
  |some (.cells ty n l)=>(c.all oneD=true∧c.length=sz∧o+sz≤l.length)∧K (.is undef) (hset H b (.cells ty n (setL l o c)))
  |_=>False
 |_,_=>False
theorem w'U: ∀(cs vs:List Value) (off:Nat),off+cs.length≤vs.length→x'm vs off cs=vs.take off++cs++vs.drop (off+cs.length)
 |[],vs,off,h=>by simp[x'm]
 |c::cs,vs,off,h=>by
  simp only[z'A]at h
  rw[x'm,w'U cs _ _ (by simp;omega)]
  apply x'k
  intro i
  simp only[x'Y,y'v,z'7,z'r,z'z,y'V,List.getElem?_set,List.getElem?_cons,z'A]
  grind
theorem Zdo: ∀(cs l:List D) (off:Nat),l.all oneD=true→cs.all oneD=true→(setL l off cs).all oneD=true
 |[],l,off,h,_=>h
 |c::cs,l,off,h,h'=>by
  simp only[y'b,z'b]at h'
  refine Zdo cs _ _ ?_ h'.2
  rw[z'h]at h⊢
  intro x hx
  rcases List.mem_or_eq_of_mem_set hx with hx|hx
  ·exact h x hx
  ·exact hx▸h'.1
theorem ZgT {P:Program} {w:World} {t ty:TypeId} {i:TypeInfo} {b o n:Nat} {v:Value} {arr:Array Value} (hi:P.info? t=some i) (hs:v.cells.size=i.size)
  (hb:w.heap[b]?=some (.cells arr ty (0,0))) (hfit:o+i.size≤arr.size) (h1: ∀u∈v.cells.toList,u.oneCell'=true):
  (storeVar t ⟨b,o,none⟩ v).run P w= .ok () (w.setRow b (x'm arr.toList o v.cells.toList).toArray):=by
 unfold storeVar
 rw[z'a (x'X hi w),if_neg (by simpa using hs)]
 have:=run_storeCells_at P b o ty v.cells.toList 0 arr w hb (by simp[hs];omega) h1
 rw[this,w'U _ _ _ (by simp[hs];omega)]
 simp
theorem Zac {w:World} {H H':Heap} {b:Nat} (hb:b∈H.blocks) (cs:Array Value) (h:H'.blocks=H.blocks):Evo w H (w.setRow b cs) H':=
 ⟨rfl,rfl,rfl,by simp[World.setRow],fun k _ hn=>setRow_other w b k cs (fun e=>hn (e▸hb)),fun k hk=> .inl (h▸hk)⟩
theorem Zen (vs cs:List Value) (o n:Nat) (h:o+cs.length≤n) (h2:n≤vs.length):(x'm vs o cs).take n=x'm (vs.take n) o cs:=by
 rw[w'U _ _ _ (by omega),w'U _ _ _ (by simp;omega)]
 apply x'k
 intro i
 simp only[x'Y,y'v,z'7,z'r,z'z,y'k]
 grind
theorem ZhX {P:Program} (T:Tab P) {o:Oper} {E:Operand→D} {H:Heap} {K:D→Heap→Prop} {t:TypeId} {a x:Operand} (ho:o.op= .store t a x) (hkn:(T.get t).known=true)
  (hk:cStore (T.get t).size (E a) (E x) H K):Op1 P o E H K:=by
 obtain⟨d,inf,z,hu,hinf,hz,_,_,hsz,hzl,hlen,_⟩:=T.facts hkn
 unfold cStore at hk
 split at hk
 ·rename_i b off c ha hc
  split at hk
  ·rename_i ty n l hg
   obtain⟨⟨hone,hcl,hfit⟩,hk⟩:=hk
   have hm:=y'H hg
   have hbm:b∈H.blocks:=z'o.2 ⟨_,hm,rfl⟩
   refine⟨fun d' H'=>d'= .is undef∧H'=hset H b (.cells ty n (setL l off c)),?_,fun _ _ ⟨h1,h2⟩=>h1▸h2▸hk⟩
   intro w L0 ε hi hx
   have h1:=hx a (by simp[ho,Op.operands])
   have h2:=hx x (by simp[ho,Op.operands])
   rw[ha]at h1
   have h1':ε a= .pointer (some ⟨b,off,none⟩):=h1
   have hcv:=Za5 hc h2
   have hclen:=RelL.length _ _ hcv
   obtain⟨hl1,arr,hb,hn,hrel⟩:=hi.rel _ _ hm
   have hll:=RelL.length _ _ hrel
   simp only[z'z,z'C]at hll
   have hvs:(ε x).cells.size=inf.size:=by rw[hsz, ←hcl, ←hclen,z'C]
   have hr:=ZgT (P:=P) (n:=n) (o:=off) hinf hvs hb (by rw[hsz];omega) (RelL.one _ _ hone hcv)
   have hrun:(execOp ε o).run P w= .ok .skip (w.setRow b (x'm arr.toList off (ε x).cells.toList).toArray):=by
    simp only[execOp,ho,h1',Instr.storeAt]
    refine(z'a (a:=()) (w':=w.setRow b (x'm arr.toList off (ε x).cells.toList).toArray) ?_).trans rfl
    rw[z'a (a:=(⟨b,off,none⟩:Addr)) (w':=w) rfl]
    exact hr
   rw[hrun]
   have hevo:Evo w H (w.setRow b (x'm arr.toList off (ε x).cells.toList).toArray) (hset H b (.cells ty n (setL l off c))):=Zac hbm _ (y'1 _ _ _)
   refine⟨.is undef,_,⟨rfl,rfl⟩,rfl,?_,hevo⟩
   have hke:Keeps w (live H L0) (w.setRow b (x'm arr.toList off (ε x).cells.toList).toArray) (live H L0):=fun k hk1 hn=>⟨setRow_other w b k _ (fun e=>hn (.inr (e▸hbm))),hn⟩
   refine HInv.set hi hbm (by simp[World.setRow]) (fun k hne hk1=>setRow_other w b k _ hne) ⟨Zdo _ _ _ hl1 hone,_,setRow_heap w b arr _ ty _ hb,?_,?_⟩
   ·simp[v'r,hn]
   ·rw[Zbc]
    simp only[]
    rw[Zen _ _ _ _ (by rw[hclen];omega) (by simp;omega)]
    exact RelL.setL _ _ _ _ _ (RelL.mono hke _ _ hrel) (RelL.mono hke _ _ hcv)
  ·exact hk.elim
 ·exact hk.elim
def x'z (esz:Nat):Nat→List D→List (List D)
 |0,_=>[]
 |n+1,l=>l.take esz::x'z esz n (l.drop esz)
theorem w'Y (esz:Nat): ∀(n:Nat) (l:List D),(x'z esz n l).length=n
 |0,_=>rfl
 |n+1,l=>by rw[x'z,z'A,w'Y]
theorem CellsAt.of {w:World} {L:Nat→Prop} {b:Nat} (hb: ¬L b): ∀(l:List D) (vs:List Value) (o:Nat),l.all oneD=true→RelL w L l vs→(∀(j:Nat) v,vs[j]?=some v→w.cell? ⟨b,o+j,none⟩=some v)→CellsAt w L l b o
 |[],_,_,_,_,_=>trivial
 |d::ds,vs,o,h1,h,hc=>by
  rw[RelL]at h
  obtain⟨v,r,rfl,h2,h3⟩:=h
  simp only[y'b,z'b]at h1
  refine⟨hb,⟨h1.1,v,by simpa using hc 0 v rfl,h2⟩,CellsAt.of hb ds r (o+1) h1.2 h3 fun j u hu=>?_⟩
  have:=hc (j+1) u (by simpa using hu)
  rwa [show o+(j+1)=o+1+j by omega]at this
theorem RowsAt.of {w:World} {L:Nat→Prop} {b esz:Nat} (hb: ¬L b): ∀(n:Nat) (l:List D) (vs:List Value) (o:Nat),n*esz≤l.length→l.all oneD=true→RelL w L l vs→
  (∀(j:Nat) v,vs[j]?=some v→w.cell? ⟨b,o+j,none⟩=some v)→RowsAt w L esz (x'z esz n l) b o
 |0,_,_,_,_,_,_,_=>trivial
 |n+1,l,vs,o,hlen,h1,h,hc=>by
  have he:(n+1)*esz=n*esz+esz:=by rw[y'F];omega
  refine⟨by rw[z'z];omega,CellsAt.of hb _ _ _ (w'p h1 _) (RelL.take esz _ _ h) fun j v hv=>?_,RowsAt.of hb n _ _ _ (by rw[y'k];omega) (w'o h1 _) (RelL.drop esz _ _ h) fun j v hv=>?_⟩
  ·rw[y'v]at hv
   split at hv
   ·exact hc j v hv
   ·cases hv
  ·rw[z'7]at hv
   have:=hc _ v hv
   rwa [show o+(esz+j)=o+esz+j by omega]at this
def cBuildSlice (kd:Kd) (n:Nat) (parts:List (Nat×D)) (H:Heap) (K:D→Heap→Prop):Prop:=
 match kd with
 | .slice e esz _ _ ez=>
  match v'I (fun i=>some (i*esz,esz)) ((List.replicate n (ez.map constD)).flatten) parts with
  |some l=>(l.all oneD=true∧n*esz≤16777216)∧K (.sl true esz (x'z esz n l)) H
  |none=>False
 |_=>False
inductive Ty where
 |int (k:IntKind)
 |bool
 |str
 |sl (el:List Ty)
mutual
def Sh:Ty→D→Prop
 | .int k,d=> ∃n,d= .is (.int k n)∧(Lit.int k n).wf=true
 | .bool,d=> ∃b,d= .is (.bool b)
 | .str,d=> ∃s:ByteArray,d= .is (.string s)∧s.size≤maxLen
 | .sl el,d=> ∃rows:List (List D),d= .sl false el.length rows∧rows.length≤maxLen∧ ∀r,r∈rows→ShL el r
termination_by structural t=>t
def ShL:List Ty→List D→Prop
 |[],l=>l=[]
 |t::ts,l=> ∃d ds,l=d::ds∧Sh t d∧ShL ts ds
end
theorem ShL.length: ∀{ts:List Ty} {l:List D},ShL ts l→l.length=ts.length
 |[],l,h=>by rw[ShL]at h;subst h;rfl
 |t::ts,l,h=>by
  obtain⟨d,ds,rfl,_,h2⟩:=h
  rw[z'A,z'A,h2.length]
theorem Sh.one: ∀{t:Ty} {d:D},Sh t d→oneD d=true
 | .int k,d,h=>by obtain⟨n,rfl,_⟩:=h;rfl
 | .bool,d,h=>by obtain⟨n,rfl⟩:=h;rfl
 | .str,d,h=>by obtain⟨n,rfl,_⟩:=h;rfl
 | .sl el,d,h=>by obtain⟨n,rfl,_⟩:=h;rfl
theorem ShL.one: ∀{ts:List Ty} {l:List D},ShL ts l→l.all oneD=true
 |[],l,h=>by rw[ShL]at h;subst h;rfl
 |t::ts,l,h=>by
  obtain⟨d,ds,rfl,h1,h2⟩:=h
  rw[y'b,h1.one,h2.one];rfl
theorem ShL.append: ∀{ts us:List Ty} {l m:List D},ShL ts l→ShL us m→ShL (ts++us) (l++m)
 |[],us,l,m,h,h'=>by rw[ShL]at h;subst h;exact h'
 |t::ts,us,l,m,h,h'=>by
  obtain⟨d,ds,rfl,h1,h2⟩:=h
  exact⟨d,ds++m,rfl,h1,h2.append h'⟩
def Zg0 (P:Program) (c:TypeId→Option (List Ty)):List Field→Nat→Option (List Ty)
 |[],_=>some []
 |f::fs,off=>match Nat.beq f.offset off,c f.type with
  |true,some l=>match Nat.beq l.length (P.cellsOf f.type),Zg0 P c fs (off+l.length)with
   |true,some r=>some (l++r)
   |_,_=>none
  |_,_=>none
def tyC (P:Program):Nat→TypeId→Option (List Ty)
 |0,_=>none
 |f+1,t=>match P.underlying t with
  |some .bool=>some [.bool]
  |some (.int k)=>some [.int k]
  |some .string=>some [.str]
  |some (.slice e)=>match tyC P f e with
   |some l=>match Nat.beq l.length (P.cellsOf e),Nat.blt 0 l.length with
    |true,true=>some [.sl l]
    |_,_=>none
   |none=>none
  |some (.struct fs)=>match Zg0 P (tyC P f) fs.toList 0 with
   |some l=>match Nat.beq l.length (P.cellsOf t)with
    |true=>some l
    |false=>none
   |none=>none
  |some (.array n e)=>match tyC P f e with
   |some l=>match Nat.beq l.length (P.cellsOf e),Nat.beq (n*l.length) (P.cellsOf t)with
    |true,true=>some (List.replicate n l).flatten
    |_,_=>none
   |none=>none
  |_=>none
variable {H : Type} {enc : TypeId × Value → H} {P : Program} {w : World} {base : Nat} {spare : Nat → Bool} {held : Bool} {L : Nat → Prop}
theorem Zff {α β:Type} {f:α→Option β}: ∀(l:List α) (r:List β),l.mapM f=some r→r.length=l.length∧ ∀(j:Nat) x,l[j]?=some x→f x=r[j]?
 |[],r,h=>by
  simp at h
  subst h
  exact⟨rfl,fun j x hx=>by simp at hx⟩
 |a::l,r,h=>by
  rw[x'n]at h
  obtain⟨b,h1,h2⟩:=Option.bind_eq_some_iff.1 h
  obtain⟨bs,h3,h4⟩:=Option.bind_eq_some_iff.1 h2
  obtain rfl:b::bs=r:=by simpa using h4
  obtain⟨k1,k2⟩:=Zff l bs h3
  refine⟨by simp[k1],fun j x hx=>?_⟩
  cases j with
  |zero=>simp at hx;subst hx;simpa using h1
  |succ j=>simpa using k2 j x (by simpa using hx)
theorem Zde {a:Addr} {n:Nat} {cs:List Value} (h:w.cells? base a n=some cs):cs.length=n∧ ∀(j:Nat) v,cs[j]?=some v→w.cell? (a.add j)=some v:=by
 unfold World.cells? at h
 split at h
 ·obtain⟨h1,h2⟩:=Zff _ _ h
  rw[List.length_range]at h1
  refine⟨h1,fun j v hv=>?_⟩
  have hj:j<n:=by
   rcases z't j cs.length with h'|h'
   ·omega
   ·rw[z'X h']at hv;cases hv
  rw[h2 j j (by rw[List.getElem?_range hj]),hv]
 ·cases h
theorem Zfi (el:List Ty) (hL: ∀b, ¬L b) (b esz:Nat): ∀(len o:Nat),(∀i,i<len→ ∃cs ds,w.cells? base ⟨b,o+i*esz,none⟩ esz=some cs∧ShL el ds∧RelL w L ds cs)→
  ∃rows:List (List D),rows.length=len∧(∀r,r∈rows→ShL el r)∧RowsAt w L esz rows b o
 |0,o,_=>⟨[],rfl,fun r hr=>(by cases hr),trivial⟩
 |len+1,o,h=>by
  obtain⟨cs,ds,h1,h2,h3⟩:=h 0 (by omega)
  obtain⟨k1,k2⟩:=Zde h1
  obtain⟨rows,r1,r2,r3⟩:=Zfi el hL b esz len (o+esz) fun i hi=>by
   have:=h (i+1) (by omega)
   rwa [show o+(i+1)*esz=o+esz+i*esz by rw[y'F];omega]at this
  refine⟨ds::rows,by simp[r1],fun r hr=>?_,?_,?_,r3⟩
  ·rcases z'p.1 hr with rfl|hr
   ·exact h2
   ·exact r2 r hr
  ·rw[←RelL.length _ _ h3,k1]
  ·refine CellsAt.of (hL b) ds cs o h2.one h3 fun j v hv=>?_
   have:=k2 j v hv
   rwa [w'm,w'i,y'7]at this
theorem ZhO {n:Nat} {cs:List Value} (c:TypeId→Option (List Ty)) (IH: ∀t tys cs x,c t=some tys→DataW.trod enc P w base spare held n t cs=some x→ ∃ds,ShL tys ds∧RelL w L ds cs):
  ∀(l:List Field) (off:Nat) (tys:List Ty),Zg0 P c l off=some tys→(∀f,f∈l→ ∃x,DataW.trod enc P w base spare held n f.type ((cs.drop f.offset).take (P.cellsOf f.type))=some x)→
   ∃ds,ShL tys ds∧RelL w L ds ((cs.drop off).take tys.length)
 |[],off,tys,h,_=>by
  rw[Zg0]at h
  obtain rfl:=z'2 h
  exact⟨[],rfl,by simp[RelL]⟩
 |f::fs,off,tys,h,hx=>by
  rw[Zg0]at h
  split at h
  ·rename_i l hoff hc
   split at h
   ·rename_i r hlen hr
    obtain rfl:=z'2 h
    have e1:f.offset=off:=z'd hoff
    have e2:l.length=P.cellsOf f.type:=z'd hlen
    obtain⟨x,h1⟩:=hx f (z'k ..)
    obtain⟨ds1,s1,q1⟩:=IH _ _ _ _ hc h1
    obtain⟨ds2,s2,q2⟩:=ZhO c IH fs _ _ hr fun f hf=>hx f (z'n _ hf)
    rw[e1, ←e2]at q1
    refine⟨ds1++ds2,s1.append s2,?_⟩
    rw[z'r,List.take_add,y'5]
    exact RelL.append _ _ _ _ q1 q2
   ·cases h
  ·cases h
theorem ZgM {n:Nat} {cs:List Value} {e:TypeId} {l:List Ty} (IH: ∀cs x,DataW.trod enc P w base spare held n e cs=some x→ ∃ds,ShL l ds∧RelL w L ds cs) (hl:l.length=P.cellsOf e):
  ∀(k j:Nat),(∀i,i<k→ ∃x,DataW.trod enc P w base spare held n e ((cs.drop ((j+i)*P.cellsOf e)).take (P.cellsOf e))=some x)→
   ∃ds,ShL (List.replicate k l).flatten ds∧RelL w L ds ((cs.drop (j*P.cellsOf e)).take (k*P.cellsOf e))
 |0,j,_=>⟨[],by simp[ShL],by simp[RelL]⟩
 |k+1,j,h=>by
  obtain⟨x,h1⟩:=h 0 (by omega)
  rw[y'7]at h1
  obtain⟨ds1,s1,q1⟩:=IH _ _ h1
  obtain⟨ds2,s2,q2⟩:=ZgM IH hl k (j+1) fun i hi=>by
   have:=h (i+1) (by omega)
   rwa [show j+(i+1)=j+1+i by omega]at this
  refine⟨ds1++ds2,?_,?_⟩
  ·rw[y'S,z'W];exact s1.append s2
  ·have:(k+1)*P.cellsOf e=P.cellsOf e+k*P.cellsOf e:=by rw[y'F];omega
   rw[this,List.take_add,y'5,show j*P.cellsOf e+P.cellsOf e=(j+1)*P.cellsOf e by rw[y'F];omega]
   exact RelL.append _ _ _ _ q1 q2
theorem v'p (hL: ∀b, ¬L b): ∀(f fuel:Nat) (t:TypeId) (tys:List Ty) (cs:List Value) (x:DataW H×List MemPlace),tyC P f t=some tys→DataW.trod enc P w base spare held fuel t cs=some x→
  ∃ds,ShL tys ds∧RelL w L ds cs
 |0,fuel,t,tys,cs,x,ht,_=>by rw[tyC]at ht;cases ht
 |f+1,fuel,t,tys,cs,x,ht,hx=>by
  rw[tyC]at ht
  split at ht
  ·rename_i hu
   obtain rfl:=z'2 ht
   cases fuel with
   |zero=>simp[DataW.trod]at hx
   |succ fuel=>
    unfold DataW.trod at hx
    rw[hu]at hx
    split at hx<;>simp_all
    exact⟨[.is (.bool _)],⟨_,_,rfl,⟨_,rfl⟩,rfl⟩,⟨_,_,rfl,rfl,rfl⟩⟩
  ·rename_i k hu
   obtain rfl:=z'2 ht
   obtain⟨n,rfl,_,hw⟩:=DataW.trod_int hu hx
   exact⟨[.is (.int k n)],⟨_,_,rfl,⟨_,rfl,hw⟩,rfl⟩,⟨_,_,rfl,rfl,rfl⟩⟩
  ·rename_i hu
   obtain rfl:=z'2 ht
   cases fuel with
   |zero=>simp[DataW.trod]at hx
   |succ fuel=>
    unfold DataW.trod at hx
    rw[hu]at hx
    split at hx<;>simp_all
    exact⟨[.is (.string _)],⟨_,_,rfl,⟨_,rfl,hx.1⟩,rfl⟩,⟨_,_,rfl,rfl,rfl⟩⟩
  ·rename_i e hu
   split at ht
   ·rename_i l hl
    split at ht
    ·rename_i he h0
     obtain rfl:=z'2 ht
     have e1:l.length=P.cellsOf e:=z'd he
     have e0:0<l.length:=by simpa using h0
     rcases Deep.open_slice hu hx with⟨rfl,_⟩|⟨a,len,cap,m,n,DD,Pl,rfl,hb,hlc,hcap,hm,_,hel⟩
     ·exact⟨[.sl false l.length []],⟨_,_,rfl,⟨[],rfl,z'Q _,fun r hr=>by cases hr⟩,rfl⟩,⟨_,_,rfl,⟨none,0,rfl,⟨z'c _,fun _=>rfl⟩,fun h=>(by cases h),.inl rfl⟩,rfl⟩⟩
     ·have hlm:len≤m:=by rw[hm];split<;>omega
      by_cases h00:len=0
      ·subst h00
       exact⟨[.sl false l.length []],⟨_,_,rfl,⟨[],rfl,z'Q _,fun r hr=>by cases hr⟩,rfl⟩,⟨_,_,rfl,⟨some a,cap,rfl,⟨hlc,fun h=>(by cases h)⟩,fun h=>(by cases h),.inl rfl⟩,rfl⟩⟩
      ·have hspot:a.spot=none:=by
        obtain⟨cs',h1,_⟩:=hel 0 (by omega)
        obtain⟨k1,k2⟩:=Zde h1
        have hlt:0<cs'.length:=by rw[k1, ←e1];exact e0
        have:=k2 0 cs'[0] (z'l hlt)
        simp only[w'i,Addr.add,if_true]at this
        unfold World.cell? at this
        split at this
        ·split at this
         ·cases this
         ·rename_i hh;simpa using hh
        ·cases this
       obtain⟨b,o,sp⟩:=a
       simp only at hspot
       subst hspot
       obtain⟨rows,r1,r2,r3⟩:=Zfi (w:=w) (base:=base) l hL b l.length len o fun i hi=>by
        obtain⟨cs',h1,h2⟩:=hel i (by omega)
        obtain⟨ds,s1,q1⟩:=v'p hL f _ _ _ _ _ hl h2
        rw[w'm, ←e1]at h1
        exact⟨cs',ds,h1,s1,q1⟩
       subst r1
       exact⟨[.sl false l.length rows],⟨_,_,rfl,⟨rows,rfl,by omega,r2⟩,rfl⟩,⟨_,_,rfl,⟨_,cap,rfl,⟨hlc,fun h=>(by cases h)⟩,fun h=>(by cases h),.inr ⟨b,o,rfl,r3⟩⟩,rfl⟩⟩
    ·cases ht
   ·cases ht
  ·rename_i fs hu
   split at ht
   ·rename_i l hl
    split at ht
    ·rename_i he
     obtain rfl:=z'2 ht
     have e1:l.length=P.cellsOf t:=z'd he
     obtain⟨xs,n,rfl,_,hlen,hxs,hfs⟩:=DataW.trod_struct hu hx
     obtain⟨ds,s,q⟩:=ZhO (cs:=cs) (tyC P f) (fun t tys cs x h1 h2=>v'p hL f n t tys cs x h1 h2) fs.toList 0 l hl fun fd hfd=>by
      obtain⟨i,hi,rfl⟩:=List.getElem_of_mem hfd
      have hi':i<xs.length:=by rw[hxs];simpa using hi
      refine⟨xs[i],?_⟩
      rw[hfs i _ (by rw[Array.getElem?_eq_getElem (by simpa using hi)];simp),z'l hi']
     rw[y'T,z'O (by omega)]at q
     exact⟨ds,s,q⟩
    ·cases ht
   ·cases ht
  ·rename_i n e hu
   split at ht
   ·rename_i l hl
    split at ht
    ·rename_i he ht'
     obtain rfl:=z'2 ht
     have e1:l.length=P.cellsOf e:=z'd he
     have e2:n*l.length=P.cellsOf t:=z'd ht'
     obtain⟨xs,m,rfl,_,hlen,hxs,hfs⟩:=DataW.trod_array hu hx
     obtain⟨ds,s,q⟩:=ZgM (cs:=cs) (e:=e) (l:=l) (n:=m) (fun cs x h2=>v'p hL f m e l cs x hl h2) e1 n 0 fun i hi=>by
      refine⟨xs[i]'(by omega),?_⟩
      rw[y'd,hfs i hi,z'l (by omega)]
     rw[w'i,y'T,z'O (by rw[hlen, ←e2,e1];exact z'c _)]at q
     exact⟨ds,s,q⟩
    ·cases ht
   ·cases ht
  ·cases ht
inductive ATy where
 |one (t:Ty)
 |many (l:List Ty)
def tyA (P:Program) (t:TypeId):Option ATy:=
 match P.underlying t with
 |some (.struct _)|some (.array _ _)=>(tyC P 20 t).map .many
 |_=>match tyC P 20 t with
  |some [x]=>some (.one x)
  |_=>none
def Zi2 (P:Program):List TypeId→Option (List ATy)
 |[]=>some []
 |t::ts=>match tyA P t,Zi2 P ts with
  |some a,some r=>some (a::r)
  |_,_=>none
def ShA:List ATy→List D→Prop
 |[],l=>l=[]
 | .one t::r,l=> ∃d ds,l=d::ds∧Sh t d∧ShA r ds
 | .many ts::r,l=> ∃m ds,l= .agg m::ds∧ShL ts m∧ShA r ds
theorem ZgL {r:Reach} {b0:Nat} {t:TypeId} {v:Value} (hn: ∀fs,P.underlying t≠some (.struct fs)) (hn2: ∀n e,P.underlying t≠some (.array n e)) (hk:(∃k,P.underlying t=some (.int k))∨P.underlying t=some .bool∨P.underlying t=some .string∨ ∃e,P.underlying t=some (.slice e))
  (h:Value.okWide P w r b0 t v):v.cells= #[v]:=by
 rcases hk with⟨k,hk⟩|hk|hk|⟨e,hk⟩<;>(simp only[Value.okWide,hk,Cell.okWide]at h;cases v<;>simp_all[Cell.ok,Value.cells])
theorem ZkR {r:Reach} {b0:Nat} (hL: ∀b, ¬L b) {t:TypeId} {v:Value} {d:DataW H} {ps:List MemPlace} (hv:Value.okWide P w r b0 t v) (h:DataW.Trod enc P w base spare held t v d ps) {a:ATy} (ha:tyA P t=some a):
  ∃dd,ShA [a] [dd]∧Rel w L dd v:=by
 obtain⟨fuel,hf⟩:=h
 unfold tyA at ha
 have big: ∀l,tyC P 20 t=some l→a= .many l→(∃cs,v= .agg cs∧cs.size=P.cellsOf t)→ ∃dd,ShA [a] [dd]∧Rel w L dd v:=by
  intro l hl ha hv
  obtain⟨cs,rfl,_⟩:=hv
  obtain⟨ds,s,q⟩:=v'p hL _ _ _ _ _ _ hl hf
  subst ha
  exact⟨.agg ds,⟨ds,[],rfl,s,rfl⟩,s.one,cs,rfl,q⟩
 split at ha
 ·rename_i fs hu
  obtain⟨l,hl,rfl⟩:=Option.map_eq_some_iff.1 ha
  simp only[Value.okWide,hu]at hv
  obtain⟨cs,h1,h2,_⟩:=hv
  exact big l hl rfl ⟨cs,h1,h2⟩
 ·rename_i n e hu
  obtain⟨l,hl,rfl⟩:=Option.map_eq_some_iff.1 ha
  simp only[Value.okWide,hu]at hv
  obtain⟨cs,h1,h2,_⟩:=hv
  exact big l hl rfl ⟨cs,h1,h2⟩
 ·rename_i n1 n2
  split at ha
  ·rename_i x hx
   obtain rfl:=z'2 ha
   have hk:(∃k,P.underlying t=some (.int k))∨P.underlying t=some .bool∨P.underlying t=some .string∨ ∃e,P.underlying t=some (.slice e):=by
    rw[tyC]at hx
    split at hx
    ·rename_i hu;exact .inr (.inl hu)
    ·rename_i k hu;exact .inl ⟨k,hu⟩
    ·rename_i hu;exact .inr (.inr (.inl hu))
    ·rename_i e hu;exact .inr (.inr (.inr ⟨e,hu⟩))
    ·rename_i fs hu;exact absurd hu (n1 fs)
    ·rename_i n e hu;exact absurd hu (n2 n e)
    ·cases hx
   have hc:=ZgL n1 n2 hk hv
   rw[hc]at hf
   obtain⟨ds,s,q⟩:=v'p hL _ _ _ _ _ _ hx hf
   obtain⟨d,ds',rfl,s1,s2⟩:=s
   rw[ShL]at s2
   subst s2
   obtain⟨u,rest,e,q1,q2⟩:=q
   have:u=v:=by
    have:=congrArg List.head? e
    simpa using this.symm
   subst this
   exact⟨d,⟨d,[],rfl,s1,rfl⟩,q1⟩
  ·cases ha
theorem Zfh {r:Reach} {b0:Nat} (hL: ∀b, ¬L b): ∀(ts:List TypeId) (vs:List Value) (ds:List (DataW H)) (ps:List MemPlace) (as:List ATy),DataW.TrodAll enc P w base spare held ts vs ds ps→
  (∀(j:Nat) t v,ts[j]?=some t→vs[j]?=some v→Value.okWide P w r b0 t v)→Zi2 P ts=some as→ ∃Ds,ShA as Ds∧RelL w L Ds vs
 |[],[],ds,ps,as,h,_,ha=>by
  rw[Zi2]at ha
  obtain rfl:=z'2 ha
  exact⟨[],rfl,rfl⟩
 |t::ts,v::vs,d::ds,ps,as,h,hv,ha=>by
  obtain⟨p,q,h1,h2,_⟩:=h
  rw[Zi2]at ha
  split at ha
  ·rename_i a rest ha1 ha2
   obtain rfl:=z'2 ha
   obtain⟨dd,s1,q1⟩:=ZkR hL (hv 0 t v rfl rfl) h1 ha1
   obtain⟨Ds,s2,q2⟩:=Zfh hL ts vs ds q _ h2 (fun j t v h1 h2=>hv (j+1) t v (by simpa using h1) (by simpa using h2)) ha2
   refine⟨dd::Ds,?_,v,vs,rfl,q1,q2⟩
   cases a with
   |one x=>
    obtain⟨d0,ds0,e,s3,_⟩:=s1
    simp only[x'D]at e
    obtain⟨rfl,_⟩:=e
    exact⟨dd,Ds,rfl,s3,s2⟩
   |many l=>
    obtain⟨m,ds0,e,s3,_⟩:=s1
    simp only[x'D]at e
    obtain⟨rfl,_⟩:=e
    exact⟨m,Ds,rfl,s3,s2⟩
  ·cases ha
 |[],_::_,_,_,_,h,_,_=>by simp[DataW.TrodAll]at h
 |_::_,[],_,_,_,h,_,_=>by simp[DataW.TrodAll]at h
 |_::_,_::_,[],_,_,h,_,_=>by simp[DataW.TrodAll]at h
theorem Zdm: ∀(ts:List TypeId) (vs:List Value) (ds:List (DataW H)) (ps:List MemPlace),DataW.TrodAll enc P w base spare held ts vs ds ps→ds.length=ts.length
 |[],[],[],ps,_=>rfl
 |t::ts,v::vs,d::ds,ps,h=>by
  obtain⟨p,q,h1,h2,rfl⟩:=h
  rw[z'A,z'A,Zdm ts vs ds q h2]
 |[],_::_,_,_,h=>by simp[DataW.TrodAll]at h
 |_::_,[],_,_,h=>by simp[DataW.TrodAll]at h
 |_::_,_::_,[],_,h=>by simp[DataW.TrodAll]at h
 |[],[],_::_,_,h=>by simp[DataW.TrodAll]at h
theorem Znp {α:Type} {l:List α} (h:l.length=1): ∃a,l=[a]:=by
 match l,h with
 |[a],_=>exact⟨a,rfl⟩
open Go.RowKit in
theorem Zfp (hl:laidOutB P=true) {W W':World} (hb:Below W.heap.size W W'): ∀(ts:List TypeId) (vs:List Value) (ds:List (DataW H)) (ps:List MemPlace),ts.all (fun t=>P.readableRec t&&Nat.blt t P.types.size)=true→
  DataW.TrodAll enc P W 0 (fun _=>true) true ts vs ds ps→(∀x∈ps,x.block<W.heap.size)→DataW.TrodAll enc P W' 0 (fun b=>decide (b<W.heap.size)) true ts vs ds ps
 |[],[],[],ps,_,h,_=>h
 |t::ts,v::vs,d::ds,ps,ht,h,hlt=>by
  obtain⟨p,q,h1,h2,rfl⟩:=h
  rw[y'b,z'b,z'b]at ht
  exact⟨p,q,Below.trod hl ht.1.1 (by simpa using ht.1.2) h1 hb (fun x hx=>hlt x (z'5 _ hx)),Zfp hl hb ts vs ds q ht.2 h2 (fun x hx=>hlt x (y's _ hx)),rfl⟩
 |[],_::_,_,_,_,h,_=>by simp[DataW.TrodAll]at h
 |_::_,[],_,_,_,h,_=>by simp[DataW.TrodAll]at h
 |_::_,_::_,[],_,_,h,_=>by simp[DataW.TrodAll]at h
 |[],[],_::_,_,_,h,_=>by simp[DataW.TrodAll]at h
theorem v'R (z:List Value): ∀(n i:Nat),i<n*z.length→((List.replicate n z).flatten)[i]?=z[i % z.length]?
 |0,i,h=>by simp at h
 |n+1,i,h=>by
  rw[y'S,z'W,x'Y]
  by_cases hi:i<z.length
  ·rw[if_pos hi,Nat.mod_eq_of_lt hi]
  ·rw[if_neg hi,v'R z n (i-z.length) (by rw[y'F]at h;omega)]
   congr 1
   rw[←Nat.mod_eq_sub_mod (by omega)]
theorem ZcK (z:Array Value) (n:Nat):((Array.range (n*z.size)).map (z[· % z.size]!)).toList=(List.replicate n z.toList).flatten:=by
 apply x'k
 intro i
 by_cases hi:i<n*z.size
 ·have hz:0<z.size:=by rcases Nat.eq_zero_or_pos z.size with h|h;rw[h]at hi;simp at hi;exact h
  have hm:=Nat.mod_lt i hz
  rw[v'R _ _ _ (by simpa using hi)]
  simp[hi,hm]
 ·have h1:((List.replicate n z.toList).flatten).length≤i:=by simp;omega
  rw[z'X (by simp;omega),z'X h1]
theorem v'm (w:World) (L:Nat→Prop) (z:List Value): ∀n:Nat,RelL w L ((List.replicate n (z.map constD)).flatten) ((List.replicate n z).flatten)
 |0=>rfl
 |n+1=>by
  rw[y'S,y'S,z'W,z'W]
  exact RelL.append _ _ _ _ (w'D w L z) (v'm w L z n)
theorem ZcE {P:Program} (T:Tab P) {o:Oper} {E:Operand→D} {H:Heap} {K:D→Heap→Prop} {t:TypeId} {n:Nat} {ps:List (Nat×Operand)} (ho:o.op= .buildSlice t n ps.toArray)
  (hk:cBuildSlice (kdT (T.get t)) n (ps.map fun p=>(p.1,E p.2)) H K):Op1 P o E H K:=by
 unfold cBuildSlice at hk
 split at hk
 ·rename_i e esz eb ea ez hkd
  obtain⟨hu,hkn,hsz,_,_,hze⟩:=y'J T hkd
  obtain⟨d,inf,z,h1,h2,h3,h4,_,h6,h7,_⟩:=y'g hkn
  rw[hsz]at h4 h7
  rw[hze]at h6 h7
  have hzs:z.cells.size=esz:=by rw[←Array.length_toList,h6,h7]
  split at hk
  ·rename_i l hl
   obtain⟨⟨hone,hbig⟩,hk⟩:=hk
   refine⟨fun d' H'=>d'= .sl true esz (x'z esz n l)∧H'=H,?_,fun _ _ ⟨h1,h2⟩=>h1▸h2▸hk⟩
   intro w L0 ε hi hx
   have hmem: ∀i x,(i,x)∈ps→Rel w (live H L0) (E x) (ε x):=fun i x hm=>hx x (by
    simp only[ho,Op.operands,List.mem_toArray,z'o]
    exact⟨(i,x),hm,rfl⟩)
   have hz0:RelL w (live H L0) ((List.replicate n (ez.map constD)).flatten) ((Array.range (n*esz)).map (z.cells[· % z.cells.size]!)).toList:=by
    rw[←hzs,ZcK,h6]
    exact v'm _ _ _ _
   obtain⟨a',hf,hr,hs⟩:=ZaR (ε:=ε) ps _ _ l hmem hl hz0
   have hs':a'.size=n*esz:=by rw[hs];simp
   have hll:l.length=n*esz:=by rw[←RelL.length _ _ hr,z'C,hs']
   have hrun:(execOp ε o).run P w= .ok (.value (.slice (some ⟨w.heap.size,0,none⟩) n n)) (w.alloc (.cells a' e)):=by
    simp only[execOp,ho,Instr.buildSlice]
    refine(z'a (a:= .slice (some ⟨w.heap.size,0,none⟩) n n) (w':=w.alloc (.cells a' e)) ?_).trans rfl
    rw[z'a (run_underlying hu w)]
    simp only
    rw[z'a (x'X h2 w),h4]
    rw[if_neg (by omega)]
    have hzv:(zeroValue e).run P w= .ok z w:=by unfold zeroValue;rw[z'a (w'x h2 w),h3];rfl
    simp only[List.map_toArray]at hf⊢
    by_cases hz0:n*esz=0
    ·rw[if_pos hz0,z'a ZaF]
     rw[show(Array.map (fun x=>(#[]:Array Value)[x % (#[]:Array Value).size]!) (Array.range (n*esz)))=Array.map (fun x=>z.cells[x % z.cells.size]!) (Array.range (n*esz)) by simp[hz0],hf]
     rfl
    ·rw[if_neg hz0,z'a hzv,z'a ZaF,hf]
     rfl
   rw[hrun]
   have hnew:(w.alloc (.cells a' e)).heap[w.heap.size]?=some (.cells a' e):=heap_alloc_new w _
   have hevo:Evo w H (w.alloc (.cells a' e)) H:=
    ⟨rfl,rfl,rfl,by simp,fun b hb _=>x'u w _ b hb,fun b hb=> .inl hb⟩
   have hnl: ¬live H L0 w.heap.size:=fun h=>by
    rcases h with h|h
    ·have:=hi.old _ h;omega
    ·have:=hi.lt h;omega
   refine⟨_,H,⟨rfl,rfl⟩,?_,?_,hevo⟩
   ·refine⟨_,n,by rw[w'Y],⟨by rw[w'Y];exact z'c _,fun h=>by cases h⟩,fun _=>by rw[w'Y],.inr ⟨w.heap.size,0,rfl,?_⟩⟩
    refine RowsAt.of hnl n l a'.toList 0 (by omega) hone (RelL.mono hevo.keeps _ _ hr) fun j v hv=>?_
    rw[y'd]
    simp only[World.cell?,hnew]
    simpa using hv
   ·exact{rel:=fun b c hm=>(hi.rel b c hm).mono hevo.keeps (x'u w _ b (hi.lt (z'o.2 ⟨_,hm,rfl⟩))),nodup:=hi.nodup,apart:=hi.apart,old:=fun b h=>z'm (hi.old b h) hevo.size}
  ·exact hk.elim
 ·exact hk.elim
def v'0 (n:Nat) (z:List Value):List D:=(List.replicate n (z.map constD)).flatten
def cMake (kd:Kd) (l c:D) (H:Heap) (K:D→Heap→Prop):Prop:=
 match kd,l,c with
 | .slice e esz eb _ ez,.is (.int _ a),.is (.int _ b)=>(0≤a∧a=b∧a.toNat*eb≤281474976710656∧a≤9223372036854775807∧(ez.map constD).all oneD=true)∧
   ∀k,k∉H.blocks→K (.gs (some (k,a.toNat)) a.toNat) ((k,.cells e (a.toNat*esz) (v'0 a.toNat ez))::H)
 |_,_,_=>False
theorem ZjV {P:Program} (T:Tab P) {o:Oper} {E:Operand→D} {H:Heap} {K:D→Heap→Prop} {t:TypeId} {l c:Operand} (ho:o.op= .makeSlice t l c)
  (hk:cMake (kdT (T.get t)) (E l) (E c) H K):Op1 P o E H K:=by
 unfold cMake at hk
 split at hk
 ·rename_i e esz eb ea ez k1 a k2 b hkd hl0 hc0
  obtain⟨hu,hkn,hsz,hbt,_,hze⟩:=y'J T hkd
  obtain⟨d,inf,z,h1,h2,h3,h4,_,h6,h7,h8⟩:=y'g hkn
  rw[hsz]at h4 h7
  rw[hze]at h6 h7
  rw[hbt]at h8
  have hzs:z.cells.size=esz:=by rw[←Array.length_toList,h6,h7]
  obtain⟨⟨ha0,rfl,hb,h63,hone⟩,hk⟩:=hk
  have hone':(v'0 a.toNat ez).all oneD=true:=by
   rw[z'h]at hone⊢
   intro x hx
   simp only[v'0,List.mem_flatten,List.mem_replicate]at hx
   obtain⟨y,⟨_,rfl⟩,hx⟩:=hx
   exact hone x hx
  refine Op1.new (v'0 a.toNat ez) e (a.toNat*esz) (fun k=> .slice (some ⟨k,0,none⟩) a.toNat a.toNat) (fun k=> .gs (some (k,a.toNat)) a.toNat) (fun _ _ _=>⟨rfl,z'c _⟩) hone' (fun w L0 ε hi hx=>?_) hk
  have hx1:=hx l (by simp[ho,Op.operands])
  have hx2:=hx c (by simp[ho,Op.operands])
  rw[hl0]at hx1;rw[hc0]at hx2
  have hx1':ε l= .int k1 a:=hx1
  have hx2':ε c= .int k2 a:=hx2
  have hby:(inf.bytes:Int)*a≤281474976710656:=by
   have h9:((eb*a.toNat:Nat):Int)≤281474976710656:=by rw[Nat.mul_comm];omega
   rw[Int.natCast_mul,Int.toNat_of_nonneg ha0]at h9
   rw[h8];exact h9
  have hr:=run_make (P:=P) w t e inf z hu h2 h3 k1 k2 a a ha0 (Int.le_refl _) hby h63
  refine⟨madeCells z.cells (a.toNat*inf.size),?_,?_,?_⟩
  ·simp only[execOp,ho,hx1',hx2']
   exact(z'a hr).trans rfl
  ·rw[size_madeCells,h4]
  ·rw[h4]
   have e1:(madeCells z.cells (a.toNat*esz)).toList=(List.replicate a.toNat ez).flatten:=by
    rw[←h6, ←ZcK,hzs]
    simp only[madeCells,hzs]
   rw[e1,z'O]
   ·exact v'm _ _ _ _
   ·simp[v'0]
 ·exact hk.elim
def shp (g:Option (Nat×Nat)) (e:TypeId) (esz:Nat) (l:List D) (H0:Heap):Heap:=
 match g with
 |none=>H0
 |some (b,cap)=>(b,.cells e (cap*esz) l)::H0
def srcOk (esz:Nat) (x:D) (H:Heap) (news:List D) (m:Nat):Prop:=
 match x with
 | .sl _ esz' rows=>esz'=esz∧news=rows.flatten∧m=rows.length
 | .gs none _=>news=[]∧m=0
 | .gs (some (b,_)) n=> ∃ty k l,y'Z H b=some (.cells ty k l)∧n*esz≤l.length∧news=l.take (n*esz)∧m=n
 | .os b o n _=> ∃ty k l,y'Z H b=some (.cells ty k l)∧o+n*esz≤l.length∧news=(l.drop o).take (n*esz)∧m=n
 |_=>False
theorem RowsAt.values {w:World} {L:Nat→Prop} {esz:Nat}: ∀(l:List (List D)) (b o:Nat),RowsAt w L esz l b o→
  l.flatten.all oneD=true∧l.flatten.length=l.length*esz∧ ∃cs:List Value,RelL w L l.flatten cs∧ ∀(j:Nat) v,cs[j]?=some v→w.cell? ⟨b,o+j,none⟩=some v
 |[],b,o,_=>⟨rfl,by simp,[],rfl,fun j v hv=>by simp at hv⟩
 |r::rs,b,o,h=>by
  rw[RowsAt]at h
  obtain⟨h1,h2,h3⟩:=h
  obtain⟨c1,hc1,hv1⟩:=CellsAt.values _ _ _ h2
  obtain⟨a2,l2,c2,hc2,hv2⟩:=RowsAt.values rs b (o+esz) h3
  have hlen:=RelL.length _ _ hc1
  refine⟨?_,?_,c1++c2,by rw[z'W];exact RelL.append _ _ _ _ hc1 hc2,fun j v hv=>?_⟩
  ·rw[z'W,List.all_append,CellsAt.all _ _ _ h2,a2];rfl
  ·rw[z'W,z'r,l2,h1,z'A,y'F];omega
  ·rw[x'Y]at hv
   split at hv
   ·exact hv1 j v hv
   ·have:=hv2 _ v hv
    rwa [show o+esz+(j-c1.length)=o+j by omega]at this
theorem ZaI {w:World} {L0:Nat→Prop} {H:Heap} (hi:HInv w L0 H) {esz m:Nat} {x:D} {news:List D} {v:Value} (h:srcOk esz x H news m) (hr:Rel w (live H L0) x v):
  ∃nv:List Value,RelL w (live H L0) news nv∧news.all oneD=true∧news.length=m*esz∧
   ((m=0∧v= .slice none 0 0)∨ ∃ad c,v= .slice (some ad) m c∧ ∀(j:Nat) u,nv[j]?=some u→w.cell? (ad.add j)=some u):=by
 cases x with
 |sl full esz' rows=>
  obtain⟨rfl,rfl,rfl⟩:=h
  rw[Rel]at hr
  obtain⟨a,cap,rfl,hcap,_,hrows⟩:=hr
  rcases hrows with rfl|⟨b,o,rfl,hrows⟩
  ·refine⟨[],rfl,rfl,by simp,?_⟩
   cases a with
   |none=>have:=hcap.2 rfl;subst this;exact .inl ⟨rfl,rfl⟩
   |some ad=>exact .inr ⟨ad,cap,rfl,fun j u hu=>by simp at hu⟩
  ·obtain⟨h1,h2,cs,h3,h4⟩:=RowsAt.values _ _ _ hrows
   exact⟨cs,h3,h1,h2,.inr ⟨_,cap,rfl,fun j u hu=>by rw[w'm];exact h4 j u hu⟩⟩
 |gs g n=>
  rw[Rel]at hr
  obtain⟨rfl,hn⟩:=hr
  cases g with
  |none=>
   obtain⟨rfl,rfl⟩:=h
   exact⟨[],rfl,rfl,by simp,.inl ⟨rfl,rfl⟩⟩
  |some g=>
   obtain⟨b,cap⟩:=g
   obtain⟨ty,k,l,hg,hle,rfl,rfl⟩:=h
   have hrel:=hi.rel _ _ (y'H hg)
   obtain⟨cs,h1,h2⟩:=HRel.cells hrel
   refine⟨cs.take (m*esz),RelL.take _ _ _ h1,w'p hrel.1 _,by rw[z'z];omega,.inr ⟨_,cap,rfl,fun j u hu=>?_⟩⟩
   rw[y'v]at hu
   split at hu
   ·rw[w'm,y'd];exact h2 j u hu
   ·cases hu
 |os b o n cap=>
  rw[Rel]at hr
  obtain⟨o',rfl,hnc,ho⟩:=hr
  obtain⟨ty,k,l,hg,hle,rfl,rfl⟩:=h
  have hrel:=hi.rel _ _ (y'H hg)
  obtain⟨cs,h1,h2⟩:=HRel.cells hrel
  refine⟨(cs.drop o).take (m*esz),RelL.take _ _ _ (RelL.drop _ _ _ h1),w'p (w'o hrel.1 _) _,by rw[z'z,y'k];omega,.inr ⟨_,cap,rfl,fun j u hu=>?_⟩⟩
  rw[y'v]at hu
  split at hu
  ·rename_i hj
   rw[z'7]at hu
   have hc:cap≠0:=fun e=>by
    have:m=0:=by omega
    rw[this]at hj;omega
   rw[ho hc,w'm];exact h2 _ u hu
  ·cases hu
 |is v=>exact h.elim
 |pt r=>exact h.elim
 |agg l=>exact h.elim
 |tup l=>exact h.elim
 |ifc t d=>exact h.elim
 |any=>exact h.elim
def cAppend (kd:Kd) (s x:D) (H:Heap) (K:D→Heap→Prop):Prop:=
 match kd,s with
 | .slice e esz eb _ _,.gs g n=> ∃l H0 news m,H=shp g e esz l H0∧l.length=n*esz∧srcOk esz x H news m∧(0<esz∧0<eb∧(n+m)*eb≤140737488355328)∧
   ∀g',gOk g' (n+m)→(∀b c,g'=some (b,c)→b∉H0.blocks)→K (.gs g' (n+m)) (shp g' e esz (l++news) H0)
 | .slice e esz eb _ _,.sl true esz' rows=> ∃news m,srcOk esz x H news m∧(esz'=esz∧0<esz∧0<eb∧(rows.length+m)*eb≤140737488355328)∧
   (m=0→K s H)∧(m≠0→ ∀b cap,b∉H.blocks→rows.length+m≤cap→K (.gs (some (b,cap)) (rows.length+m)) ((b,.cells e (cap*esz) (rows.flatten++news))::H))
 |_,_=>False
theorem ZiI (olds news:List Value) (z:Value) (esz n m cap:Nat) (h1:olds.length=n*esz) (h2:news.length=m*esz) (hz:z.cells.size=esz) (hc:n+m≤cap):
  (olds.toArray++news.toArray++Builtin.zeroCells z.cells (cap-(n+m))).size=cap*esz:=by
 simp only[Array.size_append,List.size_toArray,size_zeroCells,hz,h1,h2, ←Nat.add_mul]
 congr 1
 omega
theorem ZiJ (olds news:List Value) (z:Array Value) (k j:Nat) (h:j=(olds++news).length):((olds.toArray++news.toArray++Builtin.zeroCells z k).toList).take j=olds++news:=by
 simp only[Array.toList_append,y'r]
 rw[←List.append_assoc,h]
 exact List.take_left
theorem Zcv {w:World} {L0:Nat→Prop} {H:Heap} (hi:HInv w L0 H) {e:TypeId} {esz n m cap:Nat} {olds news:List Value} {lo ln:List D} {z:Value}
  (h1:RelL w (live H L0) lo olds) (h2:RelL w (live H L0) ln news) (a1:lo.all oneD=true) (a2:ln.all oneD=true) (e1:lo.length=n*esz) (e2:ln.length=m*esz)
  (hz:z.cells.size=esz) (hc:n+m≤cap) {w':World} (hw':w'=w.drew.alloc (.cells (olds.toArray++news.toArray++Builtin.zeroCells z.cells (cap-(n+m))) e)):
  HInv w' L0 ((w.heap.size,.cells e (cap*esz) (lo++ln))::H)∧Evo w H w' ((w.heap.size,.cells e (cap*esz) (lo++ln))::H):=by
 subst hw'
 have hnew:(w.drew.alloc (.cells (olds.toArray++news.toArray++Builtin.zeroCells z.cells (cap-(n+m))) e)).heap[w.heap.size]?=some (.cells (olds.toArray++news.toArray++Builtin.zeroCells z.cells (cap-(n+m))) e):=heap_alloc_new w.drew _
 have hevo:Evo w H (w.drew.alloc (.cells (olds.toArray++news.toArray++Builtin.zeroCells z.cells (cap-(n+m))) e)) ((w.heap.size,.cells e (cap*esz) (lo++ln))::H):=
  let h:=ZaQ w.drew H (.cells (olds.toArray++news.toArray++Builtin.zeroCells z.cells (cap-(n+m))) e) (.cells e (cap*esz) (lo++ln))
  ⟨h.os,h.tape,h.output,h.size,h.block,h.fresh⟩
 have l1:=RelL.length _ _ h1
 have l2:=RelL.length _ _ h2
 refine⟨HInv.new hi hevo.size (fun k hk=>x'u w.drew _ k hk) (z'c _) ⟨by rw[List.all_append,a1,a2];rfl,_,hnew,ZiI _ _ _ _ _ _ _ (by rw[l1,e1]) (by rw[l2,e2]) hz hc,?_⟩,hevo⟩
 rw[ZiJ _ _ _ _ _ (by rw[z'r,z'r,l1,l2])]
 exact RelL.mono hevo.keeps _ _ (RelL.append _ _ _ _ h1 h2)
theorem Zhb {P:Program} {t e:TypeId} {inf:TypeInfo} {z:Value} {esz eb:Nat} (hu:P.underlying t=some (.slice e)) (hinf:P.info? e=some inf) (hz:inf.zero=some z)
  (hsz:inf.size=esz) (hby:inf.bytes=eb) (hzs:z.cells.size=esz) (h0:0<esz) (hb0:0<eb) (ty:TypeId)
  {w:World} {L0:Nat→Prop} {g:Option (Nat×Nat)} {n m:Nat} {l news:List D} {H0:Heap} (hi:HInv w L0 (shp g e esz l H0)) (hg:gOk g n) (hl:l.length=n*esz)
  {nv:List Value} (hnv:RelL w (live (shp g e esz l H0) L0) news nv) (hone:news.all oneD=true) (hlen:news.length=m*esz) {xv:Value}
  (hx:(m=0∧xv= .slice none 0 0)∨ ∃ad c,xv= .slice (some ad) m c∧ ∀(j:Nat) u,nv[j]?=some u→w.cell? (ad.add j)=some u)
  (hbig:(n+m)*eb≤140737488355328):
  ∃g' w',(Builtin.append_ #[t,t] ty #[sv g n,xv]).run P w= .ok (sv g' (n+m)) w'∧gOk g' (n+m)∧(∀b c,g'=some (b,c)→b∉H0.blocks)∧
   HInv w' L0 (shp g' e esz (l++news) H0)∧Evo w (shp g e esz l H0) w' (shp g' e esz (l++news) H0):=by
 have hnm:n+m≤140737488355328:=z'E (Nat.le_mul_of_pos_right _ hb0) hbig
 have hnvl:=RelL.length _ _ hnv
 have hnv1:=RelL.one _ _ hone hnv
 have blk: ∀b cap,g=some (b,cap)→ ∃arr,w.heap[b]?=some (.cells arr e (0,0))∧arr.size=cap*esz∧n≤cap∧RelL w (live (shp g e esz l H0) L0) l (arr.toList.take (n*esz))∧l.all oneD=true∧b∉H0.blocks:=by
  intro b cap hgb
  subst hgb
  obtain⟨h1,arr,h2,h3,h4⟩:=hi.rel b _ (z'k ..)
  have h5:=RelL.length _ _ h4
  simp only[z'z,z'C]at h5
  refine⟨arr,h2,h3,?_,by rw[hl]at h4;exact h4,h1,?_⟩
  ·have:n*esz≤cap*esz:=by rw[←h3, ←hl];omega
   exact Nat.le_of_mul_le_mul_right this h0
  ·have:=hi.nodup
   simp only[shp,Heap.blocks,z'g,y'm]at this
   exact this.1
 rcases hx with⟨rfl,rfl⟩|⟨ad,c,rfl,hcell⟩
 ·-- nothing
  have hnews:news=[]:=z'M (by simpa using hlen)
  subst hnews
  refine⟨g,w,?_,by simpa using hg,?_,by simpa using hi,by simpa using Evo.refl w _⟩
  ·cases g with
   |none=>
    obtain rfl:n=0:=hg
    simp[sv,Builtin.append_,run_underlying hu,sizeOf,typeInfo,hinf,Builtin.lenOf,Builtin.firstCells]
   |some g=>
    obtain⟨b,cap⟩:=g
    obtain⟨arr,_,_,hnc,_⟩:=blk b cap rfl
    simp[sv,Builtin.append_,run_underlying hu,sizeOf,typeInfo,hinf,Builtin.lenOf,Builtin.firstCells,hnc,storeCells]
  ·intro b c hgb
   exact(blk b c hgb).choose_spec.2.2.2.2.2
 ·cases g with
  |none=>
   obtain rfl:n=0:=hg
   have hl0:l=[]:=z'M (by simpa using hl)
   subst hl0
   by_cases hm:m=0
   ·subst hm
    have hnews:news=[]:=z'M (by simpa using hlen)
    subst hnews
    refine⟨none,w,?_,rfl,fun b c h=>(by cases h),hi,Evo.refl w _⟩
    simp[sv,Builtin.append_,run_underlying hu,sizeOf,typeInfo,hinf,Builtin.lenOf,Builtin.firstCells,loadCells,loadCellsFrom]
   ·have hr:=run_append_nil (P:=P) w t ty e inf z hu hinf hz ad m c nv (by rw[hnvl,hlen,hsz]) hcell (by omega) (by omega) (by rw[hby];have hbb:=hbig;rw[y'd]at hbb;omega)
    obtain⟨k1,k2⟩:=Zcv (n:=0) (m:=m) (cap:=grownCap w m 0 e) (e:=e) (esz:=esz) (olds:=[]) (news:=nv) (lo:=[]) (ln:=news) (z:=z) hi rfl hnv rfl hone (by simp) hlen hzs
     (by rw[y'd];exact grownCap_ge w m 0 e) (w':=_) rfl
    simp only[Array.empty_append,y'd,z'L]at k1 k2
    refine⟨some (w.heap.size,grownCap w m 0 e),w.drew.alloc (.cells (nv.toArray++Builtin.zeroCells z.cells (grownCap w m 0 e-m)) e),?_,by simpa[gOk]using grownCap_ge w m 0 e,fun b c hbc=>?_,?_,?_⟩
    ·rw[y'd];exact hr
    ·cases hbc;exact fun hm=>by have:=hi.lt (b:=w.heap.size) hm;omega
    ·simpa[shp]using k1
    ·simpa[shp]using k2
  |some g=>
   obtain⟨b,cap⟩:=g
   obtain⟨arr,hb,hsize,hnc,hrel,hl1,hbH⟩:=blk b cap rfl
   have hll:l.length=n*inf.size:=by rw[hsz,hl]
   by_cases hroom:n+m≤cap
   ·have hfit:n*inf.size+nv.length≤arr.size:=by rw[hnvl,hlen,hsize,hsz, ←Nat.add_mul];exact Nat.mul_le_mul_right _ hroom
    have hr:=run_append_room (P:=P) w t ty e inf hu hinf b n cap arr hb ad m c nv (by rw[hnvl,hlen,hsz]) hcell hnv1 hroom hfit
    have hbm:b∈(shp (some (b,cap)) e esz l H0).blocks:=z'o.2 ⟨_,z'k ..,rfl⟩
    have hset:hset (shp (some (b,cap)) e esz l H0) b (.cells e (cap*esz) (l++news))=shp (some (b,cap)) e esz (l++news) H0:=by
     simp only[shp,Vc.hset,beq_self_eq_true,cond_true]
    have hke:Keeps w (live (shp (some (b,cap)) e esz l H0) L0) (w.setRow b (arr.toList.take (n*inf.size)++nv++arr.toList.drop (n*inf.size+nv.length)).toArray) (live (shp (some (b,cap)) e esz l H0) L0):=
     fun k hk1 hn=>⟨setRow_other w b k _ (fun e=>hn (.inr (e▸hbm))),hn⟩
    refine⟨some (b,cap),_,hr,hroom,fun b' c' hbc=>(by cases hbc;exact hbH),?_,?_⟩
    ·rw[←hset]
     refine HInv.set hi hbm (by simp[World.setRow]) (fun k hne hk1=>setRow_other w b k _ hne) ⟨by rw[List.all_append,hl1,hone];rfl,_,setRow_heap w b arr _ e _ hb,?_,?_⟩
     ·simp only[List.size_toArray,z'r,z'z,y'k,z'C]
      rw[hsz]at hfit⊢
      omega
     ·have e1:(arr.toList.take (n*inf.size)++nv++arr.toList.drop (n*inf.size+nv.length)).toArray.toList.take (l++news).length=arr.toList.take (n*esz)++nv:=by
       have hlt:(arr.toList.take (n*inf.size)).length=n*esz:=by
        rw[z'z,z'C,hsz];rw[hsz]at hfit;omega
       rw[hsz]at hlt⊢
       rw[show(l++news).length=(arr.toList.take (n*esz)++nv).length by rw[z'r,z'r,hlt,hl,hnvl]]
       exact List.take_left
      rw[e1]
      exact RelL.append _ _ _ _ (RelL.mono hke _ _ hrel) (RelL.mono hke _ _ hnv)
    ·exact Zac hbm _ (by simp[shp,Heap.blocks])
   ·have holds: ∀(j:Nat) u,(arr.toList.take (n*esz))[j]?=some u→w.cell? ((⟨b,0,none⟩:Addr).add j)=some u:=by
     intro j u hu
     rw[y'v]at hu
     split at hu
     ·rw[w'm,y'd,cell_of_row w b j arr e (0,0) hb];simpa using hu
     ·cases hu
    have holen:(arr.toList.take (n*esz)).length=n*esz:=by rw[RelL.length _ _ hrel,hl]
    have hr:=run_append_grow (P:=P) w t ty e inf z hu hinf hz ⟨b,0,none⟩ n cap (arr.toList.take (n*esz)) (by rw[holen,hsz]) holds ad m c nv (by rw[hnvl,hlen,hsz]) hcell (by omega) (by omega)
     (by rw[hby];exact growslice_fits (by omega) hbig)
    have hsub:H0.Sublist (shp (some (b,cap)) e esz l H0):=List.sublist_cons_self _ _
    have hi0:HInv w L0 H0:=SubH.inv hsub hi
    have hk0:=SubH.live hsub w L0
    obtain⟨k1,k2⟩:=Zcv (n:=n) (m:=m) (cap:=grownCap w (n+m) cap e) (e:=e) (esz:=esz) (olds:=arr.toList.take (n*esz)) (news:=nv) (lo:=l) (ln:=news) (z:=z) hi0
     (RelL.mono hk0 _ _ hrel) (RelL.mono hk0 _ _ hnv) hl1 hone hl hlen hzs (grownCap_ge w (n+m) cap e) (w':=_) rfl
    refine⟨some (w.heap.size,grownCap w (n+m) cap e),_,hr,grownCap_ge w (n+m) cap e,fun b' c' hbc=>?_,k1,?_⟩
    ·cases hbc;exact fun hm=>by have:=hi0.lt hm;omega
    ·exact⟨k2.os,k2.tape,k2.output,k2.size,fun k hk1 hn=>k2.block k hk1 (fun h=>hn (SubH.blocks hsub k h)),fun k hk1=>(k2.fresh k hk1).imp (SubH.blocks hsub k) id⟩
theorem Znq (w:World) (L:Nat→Prop) (g:Option (Nat×Nat)) (n:Nat) (h:gOk g n):Rel w L (.gs g n) (sv g n):=⟨rfl,h⟩
theorem ZgN {P:Program} (T:Tab P) {o:Oper} {E:Operand→D} {H:Heap} {K:D→Heap→Prop} {s x:Operand} {t:TypeId} (ho:o.op= .call ⟨.builtin .append, #[s,x], #[t,t]⟩)
  (hk:cAppend (kdT (T.get t)) (E s) (E x) H K):Op1 P o E H K:=by
 have run: ∀(w w':World) (ε:Operand→Value) (v r:Value),ε s=v→(Builtin.append_ #[t,t] o.type #[v,ε x]).run P w= .ok r w'→(execOp ε o).run P w= .ok (.value r) w':=by
  intro w w' ε v r h1 h2
  exact Zbb ho (s:=Builtin.append_ #[t,t] o.type (#[s,x].map ε)) rfl (by rw[←h1]at h2;simpa using h2)
 unfold cAppend at hk
 split at hk
 ·rename_i e esz eb ea ez g n hkd hs0
  obtain⟨hu,hkn,hsz,hbt,_,hze⟩:=y'J T hkd
  obtain⟨d,inf,z,h1,h2,h3,h4,_,h6,h7,h8⟩:=y'g hkn
  rw[hsz]at h4 h7
  rw[hze]at h6 h7
  rw[hbt]at h8
  have hzs:z.cells.size=esz:=by rw[←Array.length_toList,h6,h7]
  obtain⟨l,H0,news,m,rfl,hl,hsrc,⟨he0,hb0,hbig⟩,hk⟩:=hk
  refine⟨fun d' H'=> ∃g',gOk g' (n+m)∧(∀b c,g'=some (b,c)→b∉H0.blocks)∧d'= .gs g' (n+m)∧H'=shp g' e esz (l++news) H0,?_,fun d' H' ⟨g',k1,k2,k3,k4⟩=>k3▸k4▸hk g' k1 k2⟩
  intro w L0 ε hi hx
  have hx1:=hx s (by simp[ho,Op.operands,Call.operands])
  have hx2:=hx x (by simp[ho,Op.operands,Call.operands])
  rw[hs0,Rel]at hx1
  obtain⟨nv,k1,k2,k3,k4⟩:=ZaI hi hsrc hx2
  obtain⟨g',w',r1,r2,r3,r4,r5⟩:=Zhb hu h2 h3 h4 h8 hzs he0 hb0 o.type hi hx1.2 hl k1 k2 k3 k4 hbig
  rw[run w w' ε _ _ hx1.1 r1]
  exact⟨_,_,⟨g',r2,r3,rfl,rfl⟩,Znq _ _ _ _ r2,r4,r5⟩
 ·rename_i e esz eb ea ez esz' rows hkd hs0
  obtain⟨hu,hkn,hsz,hbt,_,hze⟩:=y'J T hkd
  obtain⟨d,inf,z,h1,h2,h3,h4,_,h6,h7,h8⟩:=y'g hkn
  rw[hsz]at h4 h7
  rw[hze]at h6 h7
  rw[hbt]at h8
  have hzs:z.cells.size=esz:=by rw[←Array.length_toList,h6,h7]
  obtain⟨news,m,hsrc,⟨rfl,he0,hb0,hbig⟩,hk1,hk2⟩:=hk
  refine⟨fun d' H'=>(m=0∧d'= .sl true esz' rows∧H'=H)∨(m≠0∧ ∃b cap,b∉H.blocks∧rows.length+m≤cap∧d'= .gs (some (b,cap)) (rows.length+m)∧H'=(b,.cells e (cap*esz') (rows.flatten++news))::H),?_,?_⟩
  ·intro w L0 ε hi hx
   have hx1:=hx s (by simp[ho,Op.operands,Call.operands])
   have hx2:=hx x (by simp[ho,Op.operands,Call.operands])
   rw[hs0]at hx1
   have hx1':=hx1
   rw[Rel]at hx1
   obtain⟨a,cap,hv,hcap,hfull,hrows⟩:=hx1
   obtain rfl:=hfull rfl
   obtain⟨nv,k1,k2,k3,k4⟩:=ZaI hi hsrc hx2
   have hnvl:=RelL.length _ _ k1
   by_cases hm:m=0
   ·subst hm
    have hr:(Builtin.append_ #[t,t] o.type #[.slice a rows.length rows.length,ε x]).run P w= .ok (.slice a rows.length rows.length) w:=by
     rcases k4 with⟨_,hxv⟩|⟨ad,c,hxv,hc⟩
     ·rw[hxv]
      simp[Builtin.append_,run_underlying hu,sizeOf,typeInfo,h2,Builtin.lenOf,Builtin.firstCells]
      cases a<;>simp[storeCells,go_sem]
     ·rw[hxv]
      simp[Builtin.append_,run_underlying hu,sizeOf,typeInfo,h2,Builtin.lenOf,Builtin.firstCells,loadCells,loadCellsFrom]
      cases a<;>simp[storeCells,go_sem]
    rw[run w w ε _ _ hv hr]
    exact⟨_,_,.inl ⟨rfl,rfl,rfl⟩,⟨a,_,rfl,hcap,fun _=>rfl,hrows⟩,hi,Evo.refl _ _⟩
   ·rcases k4 with⟨hm0,_⟩|⟨ad,c,hxv,hc⟩
    ·exact absurd hm0 hm
    ·have hnm:rows.length+m≤140737488355328:=z'E (Nat.le_mul_of_pos_right _ hb0) hbig
     have fin: ∀(olds:List Value) (lo:List D) (cap':Nat),RelL w (live H L0) lo olds→lo.all oneD=true→lo=rows.flatten→lo.length=rows.length*esz'→rows.length+m≤cap'→
       (Builtin.append_ #[t,t] o.type #[.slice a rows.length rows.length,ε x]).run P w= .ok (.slice (some ⟨w.heap.size,0,none⟩) (rows.length+m) cap') (w.drew.alloc (.cells (olds.toArray++nv.toArray++Builtin.zeroCells z.cells (cap'-(rows.length+m))) e))→
       Good P (fun v w'=> ∃d H',((m=0∧d= .sl true esz' rows∧H'=H)∨(m≠0∧ ∃b cap,b∉H.blocks∧rows.length+m≤cap∧d= .gs (some (b,cap)) (rows.length+m)∧H'=(b,.cells e (cap*esz') (rows.flatten++news))::H))∧
        Rel w' (live H' L0) d v∧HInv w' L0 H'∧Evo w H w' H') ((execOp ε o).run P w):=by
      intro olds lo cap' q1 q2 q3 q4 q5 q6
      obtain⟨g1,g2⟩:=Zcv (e:=e) (esz:=esz') (n:=rows.length) (m:=m) (cap:=cap') (z:=z) hi q1 k1 q2 k2 q4 k3 hzs q5 (w':=_) rfl
      rw[run w _ ε _ _ hv q6]
      refine⟨_,_,.inr ⟨hm,w.heap.size,cap',fun hm=>(by have:=hi.lt hm;omega),q5,rfl,by rw[←q3]⟩,⟨rfl,q5⟩,g1,g2⟩
     cases a with
     |none=>
      have hc0:=hcap.2 rfl
      have hr0:rows=[]:=z'M hc0
      subst hr0
      have hr:=run_append_nil (P:=P) w t o.type e inf z hu h2 h3 ad m c nv (by rw[hnvl,k3,h4]) hc (by omega) (by simp at hnm;omega) (by rw[h8];have hbb:=hbig;simp at hbb;omega)
      refine fin [] [] (grownCap w m 0 e) rfl rfl rfl (by simp) (by simpa using grownCap_ge w m 0 e) ?_
      rw[hxv]
      simpa using hr
     |some ad0=>
      have hold: ∃olds:List Value,RelL w (live H L0) rows.flatten olds∧rows.flatten.all oneD=true∧rows.flatten.length=rows.length*esz'∧ ∀(j:Nat) u,olds[j]?=some u→w.cell? (ad0.add j)=some u:=by
       rcases hrows with rfl|⟨b,off,hab,hrows⟩
       ·exact⟨[],rfl,rfl,by simp,fun j u hu=>by simp at hu⟩
       ·cases hab
        obtain⟨q1,q2,cs,q3,q4⟩:=RowsAt.values _ _ _ hrows
        exact⟨cs,q3,q1,q2,fun j u hu=>by rw[w'm];exact q4 j u hu⟩
      obtain⟨olds,q1,q2,q3,q4⟩:=hold
      have qlen:=RelL.length _ _ q1
      have hr:=run_append_grow (P:=P) w t o.type e inf z hu h2 h3 ad0 rows.length rows.length olds (by rw[qlen,q3,h4]) q4 ad m c nv (by rw[hnvl,k3,h4]) hc (by omega) (by omega)
       (by rw[h8];exact growslice_fits (by omega) hbig)
      refine fin olds _ (grownCap w (rows.length+m) rows.length e) q1 q2 rfl q3 (grownCap_ge w (rows.length+m) rows.length e) ?_
      rw[hxv]
      exact hr
  ·rintro d' H' (⟨hm,rfl,rfl⟩|⟨hm,b,cap,hb,hbc,rfl,rfl⟩)
   ·have:=hk1 hm
    rw[hs0]at this;exact this
   ·exact hk2 hm b cap hb hbc
 ·exact hk.elim
def dC (x:Option D) (top:Nat):Prop:=
 match x with
 |none=>True
 |some (.is (.int _ n))=>0≤n∧n≤top
 |_=>False
def dV (x:Option D) (dflt:Nat):Nat:=
 match x with
 |some (.is (.int _ n))=>n.toNat
 |_=>dflt
def vC (x:Option Value) (top:Nat):Prop:=
 match x with
 |none=>True
 |some (.int _ n)=>0≤n∧n≤top
 |_=>False
def vV (x:Option Value) (dflt:Nat):Nat:=
 match x with
 |some (.int _ n)=>n.toNat
 |_=>dflt
theorem Zbw {w:World} {L:Nat→Prop} {E:Operand→D} {ε:Operand→Value} {x:Option Operand} (hr: ∀y,x=some y→Rel w L (E y) (ε y)) {top:Nat} (h:dC (x.map E) top) (dflt:Nat):
  vC (x.map ε) top∧vV (x.map ε) dflt=dV (x.map E) dflt:=by
 cases x with
 |none=>exact⟨trivial,rfl⟩
 |some y=>
  have h1:=hr y rfl
  simp only[y'a]at h⊢
  unfold dC at h
  split at h
  ·rename_i heq;cases heq
  ·rename_i k n heq
   simp only[z'q]at heq
   rw[heq]at h1⊢
   have h1':ε y= .int k n:=h1
   rw[h1']
   exact⟨h,rfl⟩
  ·exact h.elim
theorem Zek {P:Program} {w:World} (isS:Bool) (len cap:Nat) (lo hi mx:Option Value) (hmx:mx.isSome=true→hi.isSome=true)
  (h1:vC mx cap) (h2:vC hi (vV mx cap)) (h3:vC lo (vV hi len)):
  (Instr.sliceBounds isS len cap lo hi mx).run P w= .ok (vV lo 0,vV hi len,vV mx cap) w:=by
 have low: ∀(v:Value) (H:Nat) (c:BoundsCode),vC (some v) H→(Instr.sliceBound v H c).run P w= .ok (vV (some v) 0) w:=by
  intro v H c hH
  cases v<;>try exact hH.elim
  rw[run_sliceBound_if]
  exact if_pos hH
 have vd: ∀(v:Value) (H a b:Nat),vC (some v) H→vV (some v) a=vV (some v) b:=by
  intro v H a b hH
  cases v<;>first|rfl|exact hH.elim
 unfold Instr.sliceBounds
 cases mx with
 |none=>
  cases hi with
  |none=>
   simp only[pure_bind]
   cases lo with
   |none=>rfl
   |some l=>rw[z'a (low l len _ h3)];rfl
  |some h=>
   simp only[pure_bind]
   rw[z'a (low h cap _ h2)]
   cases lo with
   |none=>rw[vd h _ len 0 h2];rfl
   |some l=>rw[vd h _ len 0 h2]at h3;rw[z'a (low l _ _ h3),vd h _ len 0 h2];rfl
 |some m=>
  cases hi with
  |none=>simp at hmx
  |some h=>
   simp only[]
   rw[z'a (low m cap _ h1)]
   rw[vd m _ cap 0 h1]at h2⊢
   rw[z'a (low h _ _ h2)]
   cases lo with
   |none=>rw[vd h _ len 0 h2];rfl
   |some l=>rw[vd h _ len 0 h2]at h3;rw[z'a (low l _ _ h3),vd h _ len 0 h2];rfl
theorem ZaG {P:Program} {w:World} {t e:TypeId} {inf:TypeInfo} {esz:Nat} (hu:P.underlying t=some (.slice e)) (hinf:P.info? e=some inf) (hsz:inf.size=esz)
  {a:Option Addr} {len cap:Nat} {lo hi mx:Option Value} (hmx:mx.isSome=true→hi.isSome=true) (h1:vC mx cap) (h2:vC hi (vV mx cap)) (h3:vC lo (vV hi len)):
  (Instr.sliceAt t (.slice a len cap) lo hi mx).run P w= .ok (.slice (if vV mx cap=vV lo 0 then a else a.map (·.add (vV lo 0*esz))) (vV hi len-vV lo 0) (vV mx cap-vV lo 0)) w:=by
 unfold Instr.sliceAt
 rw[z'a (run_underlying hu w)]
 simp only
 unfold Instr.slice
 rw[z'a (run_underlying hu w)]
 simp only
 rw[z'a (Zek true len cap lo hi mx hmx h1 h2 h3)]
 simp only
 rw[z'a (x'X hinf w),hsz]
 rfl
theorem Zfz {P:Program} {w:World} {t:TypeId} (hu:P.underlying t=some .string) {s:ByteArray} {lo hi:Option Value} (h2:vC hi s.size) (h3:vC lo (vV hi s.size)):
  (Instr.sliceAt t (.string s) lo hi none).run P w= .ok (.string (s.extract (vV lo 0) (vV hi s.size))) w:=by
 unfold Instr.sliceAt
 rw[z'a (run_underlying hu w)]
 simp only
 unfold Instr.slice
 rw[z'a (run_underlying hu w)]
 simp only[Option.isSome_none,y'i,if_false]
 rw[z'a (Zek false s.size s.size lo hi none (by simp) trivial h2 h3)]
 rfl
def cSlice (kd:Kd) (x:D) (lo hi mx:Option D) (K:D→Prop):Prop:=
 match kd,x with
 | .str,.is (.string s)=>match mx with
  |none=>(dC hi s.size∧dC lo (dV hi s.size))∧K (.is (.string (s.extract (dV lo 0) (dV hi s.size))))
  |some _=>False
 | .slice _ esz _ _ _,.sl full esz' rows=>(esz'=esz∧dC mx rows.length∧dC hi (dV mx rows.length)∧dC lo (dV hi rows.length))∧
   match mx,hi with
   |none,none=>K (.sl full esz (rows.drop (dV lo 0)))
   |none,some _=>K (.sl false esz ((rows.take (dV hi 0)).drop (dV lo 0)))
   |some _,some _=>K (.sl (Nat.beq (dV mx 0) (dV hi 0)) esz ((rows.take (dV hi 0)).drop (dV lo 0)))
   |some _,none=>False
 | .slice _ esz _ _ _,.gs (some (b,cap)) n=>match mx with
  |none=>(dC hi n∧dC lo (dV hi n))∧
   match lo with
   |none=>K (.gs (some (b,cap)) (dV hi n))
   |some _=>K (.os b (dV lo 0*esz) (dV hi n-dV lo 0) (cap-dV lo 0))
  |some _=>False
 | .slice ..,.gs none _=>match mx with
  |none=>(dC hi 0∧dC lo 0)∧K (.gs none 0)
  |some _=>False
 |_,_=>False
theorem Zhq {x:Option D} {a b:Nat} (h:dC x a) (hab:a≤b):dC x b:=by
 cases x with
 |none=>trivial
 |some y=>
  cases y<;>first|exact h.elim|skip
  rename_i v
  cases v<;>first|exact h.elim|exact⟨h.1,by have:=h.2;omega⟩
theorem Zmr {x:Option Value} {a b:Nat} (h:vC x a) (hab:a≤b):vC x b:=by
 cases x with
 |none=>trivial
 |some v=>cases v<;>first|exact h.elim|exact⟨h.1,by have:=h.2;omega⟩
theorem v'P {x:Option D} {top:Nat} (h:dC x top) (hs:x.isSome=true) (a b:Nat):dV x a=dV x b:=by
 cases x with
 |none=>simp at hs
 |some y=>unfold dC at h;split at h<;>first|(rename_i heq;cases heq;done)|(rename_i heq;cases heq;rfl)|exact h.elim
theorem Zaa {x:Option D} {top a:Nat} (h:dC x top) (ha:a≤top):dV x a≤top:=by
 cases x with
 |none=>exact ha
 |some y=>
  unfold dC at h
  split at h
  ·rename_i heq;cases heq
  ·rename_i heq;cases heq;simp only[dV];omega
  ·exact h.elim
theorem ZhW {P:Program} (T:Tab P) {o:Oper} {E:Operand→D} {H:Heap} {K:D→Heap→Prop} {t:TypeId} {x:Operand} {lo hi mx:Option Operand} (ho:o.op= .slice t x lo hi mx)
  (hk:cSlice (kdT (T.get t)) (E x) (lo.map E) (hi.map E) (mx.map E) (K · H)):Op1 P o E H K:=by
 have mem: ∀(w:World) (L0:Nat→Prop) (ε:Operand→Value),(∀x,x∈o.op.operands→Rel w (live H L0) (E x) (ε x))→
   Rel w (live H L0) (E x) (ε x)∧(∀y,lo=some y→Rel w (live H L0) (E y) (ε y))∧(∀y,hi=some y→Rel w (live H L0) (E y) (ε y))∧(∀y,mx=some y→Rel w (live H L0) (E y) (ε y)):=by
  intro w L0 ε hx
  refine⟨hx _ (by simp[ho,Op.operands]),fun y e=>hx _ ?_,fun y e=>hx _ ?_,fun y e=>hx _ ?_⟩<;>(subst e;simp[ho,Op.operands])
 have run: ∀(ε:Operand→Value) (w:World) (v:Value),(Instr.sliceAt t (ε x) (lo.map ε) (hi.map ε) (mx.map ε)).run P w= .ok v w→(execOp ε o).run P w= .ok (.value v) w:=by
  intro ε w v h
  simp only[execOp,ho]
  rw[z'a h];rfl
 unfold cSlice at hk
 split at hk
 ·rename_i s hkd hx0
  have hu:=v'W T hkd
  split at hk
  ·rename_i hmx0
   obtain⟨⟨c1,c2⟩,hk⟩:=hk
   have hmx:mx=none:=by cases mx<;>simp_all
   subst hmx
   refine Op1.value (d:= .is (.string (s.extract (dV (lo.map E) 0) (dV (hi.map E) s.size)))) (fun w L0 ε hi' hx=>?_) hk
   obtain⟨r1,r2,r3,_⟩:=mem w L0 ε hx
   rw[hx0]at r1
   have r1':ε x= .string s:=r1
   obtain⟨v1,v2⟩:=Zbw r3 c1 s.size
   obtain⟨v3,v4⟩:=Zbw r2 c2 0
   refine⟨_,run ε w _ ?_,rfl⟩
   rw[r1', ←v4, ←v2]
   exact Zfz hu v1 (by rw[v2];exact v3)
  ·exact hk.elim
 ·rename_i e esz eb ea ez full esz' rows hkd hx0
  obtain⟨hu,hkn,hsz,_⟩:=y'J T hkd
  obtain⟨d,inf,z,_,hinf,_,h4,_⟩:=y'g hkn
  rw[hsz]at h4
  obtain⟨⟨rfl,c1,c2,c3⟩,hk⟩:=hk
  have key: ∀(f':Bool) (rows':List (List D)),(mx.isSome=true→hi.isSome=true)→rows'=(rows.take (dV (hi.map E) rows.length)).drop (dV (lo.map E) 0)→
    (f'=true→(mx=none∧hi=none∧full=true)∨(mx.isSome=true∧dV (mx.map E) 0=dV (hi.map E) 0))→K (.sl f' esz' rows') H→Op1 P o E H K:=by
   intro f' rows' hms hrows' hf hk
   refine Op1.value (d:= .sl f' esz' rows') (fun w L0 ε hi' hx=>?_) hk
   obtain⟨r1,r2,r3,r4⟩:=mem w L0 ε hx
   rw[hx0,Rel]at r1
   obtain⟨a,cap,hv,⟨hcap,han⟩,hfull,hrows⟩:=r1
   obtain⟨v1,v2⟩:=Zbw r4 c1 cap
   have hmle:dV (mx.map E) rows.length≤dV (mx.map E) cap:=by
    cases mx with
    |none=>exact hcap
    |some y=>rw[v'P c1 rfl rows.length cap];exact z'c _
   have c2':dC (hi.map E) (dV (mx.map E) cap):=Zhq c2 hmle
   have v1':vC (mx.map ε) cap:=Zmr v1 hcap
   obtain⟨v3,v4⟩:=Zbw r3 c2' rows.length
   obtain⟨v5,v6⟩:=Zbw r2 c3 0
   have hl:dV (lo.map E) 0≤dV (hi.map E) rows.length:=Zaa c3 (z'Q _)
   have hh:dV (hi.map E) rows.length≤rows.length:=by
    cases hi with
    |none=>exact z'c _
    |some y=>
     have:=Zaa (a:=0) c2 (z'Q _)
     rw[v'P c2 rfl rows.length 0]
     refine z'E this ?_
     exact Zaa c1 (z'c _)
   have hlen':rows'.length=dV (hi.map E) rows.length-dV (lo.map E) 0:=by rw[hrows',y'k,z'z];omega
   have hhm:dV (hi.map E) rows.length≤dV (mx.map E) cap:=by
    cases hi with
    |none=>
     cases mx with
     |none=>exact hcap
     |some y=>simp at hms
    |some y=>rw[v'P c2 rfl rows.length 0];exact Zaa c2' (z'Q _)
   have hr:=ZaG (P:=P) (w:=w) (a:=a) (len:=rows.length) (cap:=cap) hu hinf h4 (lo:=lo.map ε) (hi:=hi.map ε) (mx:=mx.map ε) (by simpa using hms) v1' (by rw[v2];exact v3) (by rw[v4];exact v5)
   rw[v2,v4,v6]at hr
   refine⟨_,run ε w _ (by rw[hv];exact hr),?_⟩
   refine⟨_,_,by rw[hlen'],⟨by rw[hlen'];omega,?_⟩,?_,?_⟩
   ·intro hnone
    have:a=none:=by
     split at hnone
     ·exact hnone
     ·cases a with
      |none=>rfl
      |some ad=>cases hnone
    have h0:=han this
    have hm0:dV (mx.map E) cap=0:=by
     have:dV (mx.map E) cap≤cap:=by
      cases mx with
      |none=>exact z'c _
      |some y=>rw[v'P c1 rfl cap 0];exact z'E (Zaa c1 (z'Q _)) hcap
     omega
    omega
   ·intro hf'
    rw[hlen']
    rcases hf hf' with⟨rfl,rfl,hff⟩|⟨hms',heq⟩
    ·have:=hfull hff
     simp only[y't,dV]
     omega
    ·have hhs:=hms hms'
     rw[v'P c1 (by simpa using hms') cap 0,heq,v'P c2 (by simpa using hhs) 0 rows.length]
   ·rcases hrows with h|⟨b,off,hab,hrows⟩
    ·left;rw[hrows',h];simp
    ·by_cases hml:dV (mx.map E) cap=dV (lo.map E) 0
     ·left
      exact z'M (by rw[hlen'];omega)
     ·right
      rw[if_neg hml,hab]
      refine⟨b,off+dV (lo.map E) 0*esz',by simp[w'm],?_⟩
      rw[hrows']
      exact RowsAt.drop _ _ _ _ (RowsAt.take _ _ _ _ hrows)
  split at hk
  ·rename_i e1 e2
   have hmx:mx=none:=by cases mx<;>simp_all
   have hhi:hi=none:=by cases hi<;>simp_all
   subst hmx;subst hhi
   refine key full _ (by simp) (by simp[dV]) (fun h=> .inl ⟨rfl,rfl,h⟩) hk
  ·rename_i y e1 e2
   have hmx:mx=none:=by cases mx<;>simp_all
   subst hmx
   refine key false _ (by simp) ?_ (fun h=>by cases h) hk
   rw[v'P c2 (by rw[e2];rfl) rows.length 0]
  ·rename_i y z e1 e2
   refine key _ _ (fun _=>by cases hi<;>simp_all) ?_ (fun h=> .inr ⟨by cases mx<;>simp_all,z'd h⟩) hk
   rw[v'P c2 (by rw[e2];rfl) rows.length 0]
  ·exact hk.elim
 ·rename_i e esz eb ea ez b cap n hkd hx0
  obtain⟨hu,hkn,hsz,_⟩:=y'J T hkd
  obtain⟨d,inf,z,_,hinf,_,h4,_⟩:=y'g hkn
  rw[hsz]at h4
  split at hk
  ·rename_i hmx0
   have hmx:mx=none:=by cases mx<;>simp_all
   subst hmx
   obtain⟨⟨c1,c2⟩,hk⟩:=hk
   have base: ∀(w:World) (L0:Nat→Prop) (ε:Operand→Value),(∀x,x∈o.op.operands→Rel w (live H L0) (E x) (ε x))→
     n≤cap∧dV (lo.map E) 0≤dV (hi.map E) n∧dV (hi.map E) n≤n∧
     (execOp ε o).run P w= .ok (.value (.slice (if cap=dV (lo.map E) 0 then some ⟨b,0,none⟩else some ⟨b,dV (lo.map E) 0*esz,none⟩) (dV (hi.map E) n-dV (lo.map E) 0) (cap-dV (lo.map E) 0))) w:=by
    intro w L0 ε hx
    obtain⟨r1,r2,r3,_⟩:=mem w L0 ε hx
    rw[hx0,Rel]at r1
    obtain⟨hv,hnc⟩:=r1
    have hnc':n≤cap:=hnc
    have hh:dV (hi.map E) n≤n:=Zaa c1 (z'c _)
    have c1':dC (hi.map E) cap:=Zhq c1 hnc'
    obtain⟨v3,v4⟩:=Zbw r3 c1' n
    obtain⟨v5,v6⟩:=Zbw r2 c2 0
    refine⟨hnc',Zaa c2 (z'Q _),hh,run ε w _ ?_⟩
    have hr:=ZaG (P:=P) (w:=w) (a:=some ⟨b,0,none⟩) (len:=n) (cap:=cap) hu hinf h4 (lo:=lo.map ε) (hi:=hi.map ε) (mx:=none) (by simp) trivial v3 (by rw[v4];exact v5)
    rw[v4,v6]at hr
    rw[hv]
    simp only[y't,sv]
    rw[hr]
    simp only[vV,y'a,w'm,y'd]
   split at hk
   ·rename_i hlo0
    have hlo:lo=none:=by cases lo<;>simp_all
    subst hlo
    refine Op1.value (d:= .gs (some (b,cap)) (dV (hi.map E) n)) (fun w L0 ε hi' hx=>?_) hk
    obtain⟨b1,b2,b3,b4⟩:=base w L0 ε hx
    refine⟨_,b4,?_,?_⟩
    ·simp[sv,dV]
    ·show _≤cap;omega
   ·rename_i y hlo0
    refine Op1.value (d:= .os b (dV (lo.map E) 0*esz) (dV (hi.map E) n-dV (lo.map E) 0) (cap-dV (lo.map E) 0)) (fun w L0 ε hi' hx=>?_) hk
    obtain⟨b1,b2,b3,b4⟩:=base w L0 ε hx
    refine⟨_,b4,?_⟩
    by_cases hc:cap=dV (lo.map E) 0
    ·exact⟨0,by rw[if_pos hc],by omega,fun h=>by omega⟩
    ·exact⟨_,by rw[if_neg hc],by omega,fun _=>rfl⟩
  ·exact hk.elim
 ·rename_i e esz eb ea ez n hkd hx0
  obtain⟨hu,hkn,hsz,_⟩:=y'J T hkd
  obtain⟨d,inf,z,_,hinf,_,h4,_⟩:=y'g hkn
  rw[hsz]at h4
  split at hk
  ·rename_i hmx0
   have hmx:mx=none:=by cases mx<;>simp_all
   subst hmx
   obtain⟨⟨c1,c2⟩,hk⟩:=hk
   refine Op1.value (d:= .gs none 0) (fun w L0 ε hi' hx=>?_) hk
   obtain⟨r1,r2,r3,_⟩:=mem w L0 ε hx
   rw[hx0,Rel]at r1
   obtain⟨v3,v4⟩:=Zbw r3 c1 0
   obtain⟨v5,v6⟩:=Zbw r2 c2 0
   have e1:dV (hi.map E) 0=0:=by have:=Zaa c1 (z'c 0);omega
   have e2:dV (lo.map E) 0=0:=by have:=Zaa c2 (z'c 0);omega
   have hr:=ZaG (P:=P) (w:=w) (a:=none) (len:=0) (cap:=0) hu hinf h4 (lo:=lo.map ε) (hi:=hi.map ε) (mx:=none) (by simp) trivial v3 (by rw[v4,e1];exact v5)
   rw[v4,v6,e1,e2]at hr
   refine⟨.slice none 0 0,run ε w _ ?_,rfl,rfl⟩
   rw[r1.1]
   simp only[y't,sv]
   rw[hr]
   simp[vV]
  ·exact hk.elim
 ·exact hk.elim
def numsOf (k:IntKind):List (List D)→Option (List Int)
 |[]=>some []
 |[.is (.int j n)]::r=>match kTag j == kTag k,numsOf k r with
  |true,some l=>some (n::l)
  |_,_=>none
 |_::_=>none
theorem Zba {w:World} {L:Nat→Prop} {k:IntKind}: ∀(rows:List (List D)) (ns:List Int) (vs:List Value),numsOf k rows=some ns→RelL w L rows.flatten vs→vs=ns.map (Value.int k)
 |[],ns,vs,h,hr=>by
  simp only[numsOf,z'q]at h;subst h
  rw[List.flatten_nil,RelL]at hr;exact hr
 |row::r,ns,vs,h,hr=>by
  unfold numsOf at h
  split at h
  ·rename_i heq;cases heq
  ·rename_i j n r' heq
   cases heq
   split at h
   ·rename_i l hk hl
    simp only[z'q]at h;subst h
    obtain rfl:=Zb2 hk
    rw[z'W,y'w,z'L,RelL]at hr
    obtain⟨v,rest,rfl,h1,h2⟩:=hr
    rw[Zba r l rest hl h2]
    have h1':v= .int j n:=h1
    rw[h1'];rfl
   ·cases h
  ·cases h
def Zbs (ns:List Int):ByteArray:=ns.foldl (fun s n=>s++Utf8.encode n) ByteArray.empty
def Zbf (ns:List Int):ByteArray:=ns.foldl (fun s n=>s.push (UInt8.ofNat n.toNat)) ByteArray.empty
theorem Za0 {P:Program} {w:World}: ∀(ns:List Int) (s:ByteArray),
  (forIn (ns.map (Value.int .i32)) s (fun c s=>match c with
   | .int .i32 n=>pure (ForInStep.yield (s++Utf8.encode n))
   |_=>stuck "runesToString: rune expected" :Value→ByteArray→Sem (ForInStep ByteArray))).run P w= .ok (ns.foldl (fun s n=>s++Utf8.encode n) s) w
 |[],s=>rfl
 |n::r,s=>by
  rw[z'g,List.forIn_cons,z'a ZaF]
  exact Za0 r _
theorem Zfn {P:Program} {w:World} {a:Addr} {cap:Nat} {ns:List Int} (h: ∀(j:Nat) v,(ns.map (Value.int .i32))[j]?=some v→w.cell? (a.add j)=some v):
  (Conv.runesToString (.slice (some a) ns.length cap)).run P w= .ok (.string (Zbs ns)) w:=by
 have h1:=run_loadCells_list (P:=P) (w:=w) a (ns.map (Value.int .i32)) (fun j v hv=>h j v hv)
 rw[z'f]at h1
 unfold Conv.runesToString
 simp only
 rw[z'a h1]
 have h2:=Za0 (P:=P) (w:=w) ns ByteArray.empty
 rw[List.forIn_toArray]
 exact(z'a h2).trans rfl
theorem ZaE {P:Program} {w:World}: ∀(ns:List Int) (s:ByteArray),
  (forIn (ns.map (Value.int .u8)) s (fun c s=>match c with
   | .int .u8 n=>pure (ForInStep.yield (s.push (UInt8.ofNat n.toNat)))
   |_=>stuck "bytesToString: byte expected" :Value→ByteArray→Sem (ForInStep ByteArray))).run P w= .ok (ns.foldl (fun s n=>s.push (UInt8.ofNat n.toNat)) s) w
 |[],s=>rfl
 |n::r,s=>by
  rw[z'g,List.forIn_cons,z'a ZaF]
  exact ZaE r _
theorem Zfm {P:Program} {w:World} {a:Addr} {cap:Nat} {ns:List Int} (h: ∀(j:Nat) v,(ns.map (Value.int .u8))[j]?=some v→w.cell? (a.add j)=some v):
  (Conv.bytesToString (.slice (some a) ns.length cap)).run P w= .ok (.string (Zbf ns)) w:=by
 have h1:=run_loadCells_list (P:=P) (w:=w) a (ns.map (Value.int .u8)) (fun j v hv=>h j v hv)
 rw[z'f]at h1
 unfold Conv.bytesToString
 simp only
 rw[z'a h1]
 have h2:=ZaE (P:=P) (w:=w) ns ByteArray.empty
 rw[List.forIn_toArray]
 exact(z'a h2).trans rfl
def cConvS (ke:Kd) (a b:Kd) (x:D) (K:D→Prop):Prop:=
 match a,b,x with
 | .int _,.int k,.is (.int _ n)=>K (.is (.int k (k.wrap n)))
 | .slice _ _ _ _ _,.str,.sl _ 1 rows=>match ke with
  | .int .i32=>match numsOf .i32 rows with
   |some ns=>K (.is (.string (Zbs ns)))
   |none=>False
  | .int .u8=>match numsOf .u8 rows with
   |some ns=>K (.is (.string (Zbf ns)))
   |none=>False
  |_=>False
 | .str,.str,.is (.string s)=>K (.is (.string s))
 |_,_,_=>False
def kdElem (T:TypeId→TyI):Kd→Kd
 | .slice e _ _ _ _=>kdT (T e)
 |_=> .other
theorem ZeW {P:Program} (T:Tab P) {o:Oper} {E:Operand→D} {H:Heap} {K:D→Heap→Prop} {t u:TypeId} {x:Operand} (ho:o.op= .convert t u x)
  (hk:cConvS (kdElem T.get (kdT (T.get t))) (kdT (T.get t)) (kdT (T.get u)) (E x) (K · H)):Op1 P o E H K:=by
 unfold cConvS at hk
 split at hk
 ·rename_i j k j' n hkt hku hx0
  have hut:=Zed T hkt
  have huu:=Zed T hku
  refine Op1.value (d:= .is (.int k (k.wrap n))) (fun w L0 ε hi hx=>?_) hk
  have r1:=hx x (by simp[ho,Op.operands])
  rw[hx0]at r1
  have r1':ε x= .int j' n:=r1
  refine⟨.int k (k.wrap n),?_,rfl⟩
  simp only[execOp,ho,r1']
  refine(z'a (a:= .int k (k.wrap n)) (w':=w) ?_).trans rfl
  unfold convert
  rw[z'a (run_underlying hut w),z'a (run_underlying huu w)]
  rfl
 ·rename_i e esz eb ea ez full rows hkt hku hx0
  split at hk
  ·rename_i hke
   split at hk
   ·rename_i ns hns
    obtain⟨hut,_⟩:=y'J T hkt
    have huu:=v'W T hku
    have hue:P.underlying e=some (.int .i32):=by
     rw[hkt]at hke
     exact Zed T hke
    refine Op1.value (d:= .is (.string (Zbs ns))) (fun w L0 ε hi hx=>⟨.string (Zbs ns),?_,rfl⟩) hk
    have r1:=hx x (by simp[ho,Op.operands])
    rw[hx0,Rel]at r1
    obtain⟨a,cap,hv,hcap,hfull,hrows⟩:=r1
    simp only[execOp,ho,hv]
    refine(z'a (a:= .string (Zbs ns)) (w':=w) ?_).trans rfl
    unfold convert
    rw[z'a (run_underlying hut w),z'a (run_underlying huu w)]
    simp only
    rw[z'a (run_underlying hue w)]
    simp only
    rcases hrows with rfl|⟨b,off,rfl,hrows⟩
    ·simp only[numsOf,z'q]at hns
     subst hns
     cases a with
     |none=>rfl
     |some ad=>exact Zfn (ns:=[]) (fun j v hv=>by simp at hv)
    ·obtain⟨_,_,cs,h1,h2⟩:=RowsAt.values _ _ _ hrows
     have hcs:=Zba _ _ _ hns h1
     subst hcs
     have hlen:rows.length=ns.length:=by
      have:=RelL.length _ _ h1
      obtain⟨_,h3,_⟩:=RowsAt.values _ _ _ hrows
      rw[z'f,h3,y'l]at this
      exact this.symm
     rw[hlen]
     exact Zfn (fun j v hv=>by rw[w'm];exact h2 j v hv)
   ·exact hk.elim
  ·rename_i hke
   split at hk
   ·rename_i ns hns
    obtain⟨hut,_⟩:=y'J T hkt
    have huu:=v'W T hku
    have hue:P.underlying e=some (.int .u8):=by
     rw[hkt]at hke
     exact Zed T hke
    refine Op1.value (d:= .is (.string (Zbf ns))) (fun w L0 ε hi hx=>⟨.string (Zbf ns),?_,rfl⟩) hk
    have r1:=hx x (by simp[ho,Op.operands])
    rw[hx0,Rel]at r1
    obtain⟨a,cap,hv,hcap,hfull,hrows⟩:=r1
    simp only[execOp,ho,hv]
    refine(z'a (a:= .string (Zbf ns)) (w':=w) ?_).trans rfl
    unfold convert
    rw[z'a (run_underlying hut w),z'a (run_underlying huu w)]
    simp only
    rw[z'a (run_underlying hue w)]
    simp only
    rcases hrows with rfl|⟨b,off,rfl,hrows⟩
    ·simp only[numsOf,z'q]at hns
     subst hns
     cases a with
     |none=>rfl
     |some ad=>exact Zfm (ns:=[]) (fun j v hv=>by simp at hv)
    ·obtain⟨_,_,cs,h1,h2⟩:=RowsAt.values _ _ _ hrows
     have hcs:=Zba _ _ _ hns h1
     subst hcs
     have hlen:rows.length=ns.length:=by
      have:=RelL.length _ _ h1
      obtain⟨_,h3,_⟩:=RowsAt.values _ _ _ hrows
      rw[z'f,h3,y'l]at this
      exact this.symm
     rw[hlen]
     exact Zfm (fun j v hv=>by rw[w'm];exact h2 j v hv)
   ·exact hk.elim
  ·exact hk.elim
 ·rename_i s hkt hku hx0
  have hut:=v'W T hkt
  have huu:=v'W T hku
  refine Op1.value (d:= .is (.string s)) (fun w L0 ε hi hx=>?_) hk
  have r1:=hx x (by simp[ho,Op.operands])
  rw[hx0]at r1
  have r1':ε x= .string s:=r1
  refine⟨.string s,?_,rfl⟩
  simp only[execOp,ho,r1']
  refine(z'a (a:= .string s) (w':=w) ?_).trans rfl
  unfold convert
  rw[z'a (run_underlying hut w),z'a (run_underlying huu w)]
  rfl
 ·exact hk.elim
def cRange (kd:Kd) (x:D) (H:Heap) (K:D→Heap→Prop):Prop:=
 match kd,x with
 | .str,.is (.string s)=> ∀b,b∉H.blocks→K (.is (.pointer (some ⟨b,0,none⟩))) ((b,.iter s 0)::H)
 |_,_=>False
theorem ZhV {P:Program} (T:Tab P) {o:Oper} {E:Operand→D} {H:Heap} {K:D→Heap→Prop} {t:TypeId} {x:Operand} (ho:o.op= .range t x) (hk:cRange (kdT (T.get t)) (E x) H K):Op1 P o E H K:=by
 unfold cRange at hk
 split at hk
 ·rename_i s hkt hx0
  have hu:=v'W T hkt
  refine⟨fun d' H'=> ∃b,b∉H.blocks∧d'= .is (.pointer (some ⟨b,0,none⟩))∧H'=(b,.iter s 0)::H,?_,fun d' H' ⟨b,h1,h2,h3⟩=>h2▸h3▸hk b h1⟩
  intro w L0 ε hi hx
  have r1:=hx x (by simp[ho,Op.operands])
  rw[hx0]at r1
  have r1':ε x= .string s:=r1
  have hrun:(execOp ε o).run P w= .ok (.value (.pointer (some ⟨w.heap.size,0,none⟩))) (w.alloc (.stringIter s 0)):=by
   simp only[execOp,ho,r1',Instr.range]
   refine(z'a (a:= .pointer (some ⟨w.heap.size,0,none⟩)) (w':=w.alloc (.stringIter s 0)) ?_).trans rfl
   rw[z'a (run_underlying hu w)]
   rfl
  rw[hrun]
  have hevo:Evo w H (w.alloc (.stringIter s 0)) ((w.heap.size,.iter s 0)::H):=ZaQ w H _ _
  refine⟨_,_,⟨w.heap.size,fun hm=>by have:=hi.lt hm;omega,rfl,rfl⟩,rfl,?_,hevo⟩
  exact HInv.new hi hevo.size (fun k hk=>x'u w _ k hk) (z'c _) (heap_alloc_new w _)
 ·exact hk.elim
def cNext (it:D) (isStr:Bool) (H:Heap) (K:D→Heap→Prop):Prop:=
 match isStr,it with
 |true,.is (.pointer (some ⟨b,0,none⟩))=>
  match y'Z H b with
  |some (.iter s pos)=>x'y (Nat.blt pos s.size) fun t=>match t with
   |true=>K (.tup [.is (.bool true),.is (.int .i64 pos),.is (.int .i32 (Utf8.decode s pos).1)]) (hset H b (.iter s (pos+(Utf8.decode s pos).2)))
   |false=>K (.tup [.is (.bool false)]) H
  |_=>False
 |_,_=>False
theorem ZbC {w:World} {H H':Heap} {b:Nat} (hb:b∈H.blocks) (ob:Obj) (h:H'.blocks=H.blocks):Evo w H {w with heap:=w.heap.setIfInBounds b ob} H':=
 ⟨rfl,rfl,rfl,by simp,fun k _ hn=>by
  have hne:b≠k:=fun e=>hn (e▸hb)
  simp[z'3 hne],fun k hk=> .inl (h▸hk)⟩
theorem ZgQ {P:Program} {o:Oper} {E:Operand→D} {H:Heap} {K:D→Heap→Prop} {x:Operand} {isStr:Bool} (ho:o.op= .next x isStr) (hk:cNext (E x) isStr H K):Op1 P o E H K:=by
 unfold cNext at hk
 split at hk
 ·rename_i b hx0
  split at hk
  ·rename_i s pos hg
   have hm:=y'H hg
   have hbm:b∈H.blocks:=z'o.2 ⟨_,hm,rfl⟩
   have h:=x'N hk
   by_cases hlt:pos<s.size
   ·have hb:Nat.blt pos s.size=true:=by simpa using hlt
    rw[hb]at h
    refine⟨fun d' H'=>d'= .tup [.is (.bool true),.is (.int .i64 pos),.is (.int .i32 (Utf8.decode s pos).1)]∧H'=hset H b (.iter s (pos+(Utf8.decode s pos).2)),?_,fun _ _ ⟨h1,h2⟩=>h1▸h2▸h⟩
    intro w L0 ε hi hx
    have r1:=hx x (by simp[ho,Op.operands])
    rw[hx0]at r1
    have r1':ε x= .pointer (some ⟨b,0,none⟩):=r1
    have hob:w.heap[b]?=some (.stringIter s pos):=hi.rel _ _ hm
    have hrun:(execOp ε o).run P w= .ok (.value (.tuple #[.bool true,.int .i64 pos,.int .i32 (Utf8.decode s pos).1])) {w with heap:=w.heap.setIfInBounds b (.stringIter s (pos+(Utf8.decode s pos).2))}:=by
     simp only[execOp,ho,r1',Instr.next]
     refine(z'a (a:= .tuple #[.bool true,.int .i64 pos,.int .i32 (Utf8.decode s pos).1]) (w':={w with heap:=w.heap.setIfInBounds b (.stringIter s (pos+(Utf8.decode s pos).2))}) ?_).trans rfl
     rw[z'a (a:=Obj.stringIter s pos) (w':=w) (by simp[getObj,Sem.run,hob])]
     simp only[hlt,if_true]
     rw[z'a (a:=()) (w':={w with heap:=w.heap.setIfInBounds b (.stringIter s (pos+(Utf8.decode s pos).2))}) (by simp[setObj,Sem.run,hob])]
     rfl
    rw[hrun]
    have hevo:=ZbC (w:=w) hbm (.stringIter s (pos+(Utf8.decode s pos).2)) (y'1 H b (.iter s (pos+(Utf8.decode s pos).2)))
    have hbl:=hi.lt hbm
    refine⟨_,_,⟨rfl,rfl⟩,⟨_,rfl,⟨_,_,rfl,rfl,_,_,rfl,rfl,_,_,rfl,rfl,rfl⟩⟩,?_,hevo⟩
    refine HInv.set hi hbm hevo.size (fun k hne _=>by simp[z'3 (Ne.symm hne)]) ?_
    show(w.heap.setIfInBounds b _)[b]?=_
    simp[hbl]
   ·have hb:Nat.blt pos s.size=false:=by
     cases hq:Nat.blt pos s.size with
     |false=>rfl
     |true=>exact absurd (by simpa using hq) hlt
    rw[hb]at h
    refine⟨fun d' H'=>d'= .tup [.is (.bool false)]∧H'=H,?_,fun _ _ ⟨h1,h2⟩=>h1▸h2▸h⟩
    intro w L0 ε hi hx
    have r1:=hx x (by simp[ho,Op.operands])
    rw[hx0]at r1
    have r1':ε x= .pointer (some ⟨b,0,none⟩):=r1
    have hob:w.heap[b]?=some (.stringIter s pos):=hi.rel _ _ hm
    have hrun:(execOp ε o).run P w= .ok (.value (.tuple #[.bool false])) w:=by
     simp only[execOp,ho,r1',Instr.next]
     refine(z'a (a:= .tuple #[.bool false]) (w':=w) ?_).trans rfl
     rw[z'a (a:=Obj.stringIter s pos) (w':=w) (by simp[getObj,Sem.run,hob])]
     simp only[hlt,if_false]
     rfl
    rw[hrun]
    exact⟨_,_,⟨rfl,rfl⟩,⟨_,rfl,⟨_,_,rfl,rfl,rfl⟩⟩,hi,Evo.refl _ _⟩
  ·exact hk.elim
 ·exact hk.elim
theorem x'e {H H':Heap} (h:H.Perm H'):H.blocks.Perm H'.blocks:=h.map _
theorem v'a {H H':Heap} (h:H.Perm H') (L0:Nat→Prop):live H' L0=live H L0:=
 funext fun b=>propext (or_congr Iff.rfl (x'e h).mem_iff.symm)
theorem HInv.perm {w:World} {L0:Nat→Prop} {H H':Heap} (h:H.Perm H') (hi:HInv w L0 H):HInv w L0 H' where
 rel b c hm:=by rw[v'a h];exact hi.rel b c (h.mem_iff.2 hm)
 nodup:=(x'e h).nodup_iff.1 hi.nodup
 apart b hb:=hi.apart b ((x'e h).mem_iff.2 hb)
 old:=hi.old
theorem Evo.perm {w w':World} {H H' G G':Heap} (h1:H.Perm G) (h2:H'.Perm G') (he:Evo w H w' H'):Evo w G w' G' where
 os:=he.os
 tape:=he.tape
 output:=he.output
 size:=he.size
 block b hb hn:=he.block b hb fun hm=>hn ((x'e h1).mem_iff.1 hm)
 fresh b hb:=(he.fresh b ((x'e h2).mem_iff.2 hb)).imp (x'e h1).mem_iff.1 id
theorem Good.mono {P:Program} {R R':Value→World→Prop} {r:Result Next} (h:Good P R r) (hk: ∀v w,R v w→R' v w):Good P R' r:=by
 cases r with
 |ok n w1=>
  cases n<;>simp only[Good]at h⊢
  case value v=>exact hk _ _ h
  case skip=>exact hk _ _ h
  case enter f args=>exact h.mono fun e w' ⟨v,he,hr⟩=>⟨v,he,hk _ _ hr⟩
 |halt x w1=>exact h
theorem Za9: ∀{H:Heap} {b:Nat} {c:HC},H.blocks.Nodup→(b,c)∈H→y'Z H b=some c
 |(k,c0)::r,b,c,hn,h=>by
  simp only[Heap.blocks,z'g,y'm]at hn
  simp only[y'Z]
  rcases z'p.1 h with h|h
  ·cases h;simp
  ·have:k≠b:=fun e=>hn.1 (by rw[e];exact z'o.2 ⟨_,h,rfl⟩)
   have e':(k == b)=false:=by simpa using this
   rw[e',cond_false]
   exact Za9 hn.2 h
theorem Zfc {H H':Heap} (h:H.Perm H') (hn:H.blocks.Nodup) {b:Nat} {c:HC} (hg:y'Z H b=some c):y'Z H' b=some c:=
 Za9 ((x'e h).nodup_iff.1 hn) (h.mem_iff.1 (y'H hg))
theorem ZiZ {H H':Heap} (h:H.Perm H') (hn:H.blocks.Nodup) {esz:Nat} {x:D} {news:List D} {m:Nat} (hs:srcOk esz x H news m):srcOk esz x H' news m:=by
 unfold srcOk at*
 split<;>simp only at hs
 ·exact hs
 ·exact hs
 ·obtain⟨ty,k,l,h1,h2⟩:=hs;exact⟨ty,k,l,Zfc h hn h1,h2⟩
 ·obtain⟨ty,k,l,h1,h2⟩:=hs;exact⟨ty,k,l,Zfc h hn h1,h2⟩
def Sp (H:Heap) (g:Option (Nat×Nat)) (e:TypeId) (esz:Nat) (l:List D) (F:Option (Nat×Nat)→List D→Heap):Prop:=
 ∃X,H.Perm (shp g e esz l X)∧ ∀g' l',(shp g' e esz l' X).Perm (F g' l')
theorem ZgW (g:Option (Nat×Nat)) (e:TypeId) (esz:Nat) (l:List D) (x:Nat×HC) (X:Heap):(x::shp g e esz l X).Perm (shp g e esz l (x::X)):=by
 cases g with
 |none=>exact .refl _
 |some p=>exact .swap _ _ _
theorem Sp.nil {e:TypeId} {esz:Nat} {X:Heap}:Sp X none e esz [] (fun g' l'=>shp g' e esz l' X):=⟨X,.refl _,fun _ _=> .refl _⟩
theorem Sp.cons {g:Option (Nat×Nat)} {e:TypeId} {esz:Nat} {l:List D} {H:Heap} {F:Option (Nat×Nat)→List D→Heap} {x:Nat×HC} (h:Sp H g e esz l F):Sp (x::H) g e esz l (fun g' l'=>x::F g' l'):=by
 obtain⟨X,h1,h2⟩:=h
 exact⟨x::X,(h1.cons x).trans (ZgW _ _ _ _ _ _),fun g' l'=>(ZgW _ _ _ _ _ _).symm.trans ((h2 g' l').cons x)⟩
def cAppS (kd:Kd) (s x:D) (H:Heap) (K:D→Heap→Prop):Prop:=
 match kd,s with
 | .slice e esz eb _ _,.gs g n=> ∃F l news m,Sp H g e esz l F∧l.length=n*esz∧srcOk esz x H news m∧(0<esz∧0<eb∧(n+m)*eb≤140737488355328)∧
   ∀g',gOk g' (n+m)→K (.gs g' (n+m)) (F g' (l++news))
 | .slice e esz eb ea ez,.sl full esz' rows=>cAppend (.slice e esz eb ea ez) (.sl full esz' rows) x H K
 |_,_=>False
theorem ZcD {P:Program} (T:Tab P) {o:Oper} {E:Operand→D} {H:Heap} {K:D→Heap→Prop} {s x:Operand} {t:TypeId} (ho:o.op= .call ⟨.builtin .append, #[s,x], #[t,t]⟩)
  (hk:cAppS (kdT (T.get t)) (E s) (E x) H K):Op1 P o E H K:=by
 unfold cAppS at hk
 split at hk
 ·rename_i e esz eb ea ez g n hkd hs0
  obtain⟨F,l,news,m,⟨X,p1,p2⟩,hl,hsrc,hb,hk⟩:=hk
  refine⟨fun d H'=> ∃g',gOk g' (n+m)∧d= .gs g' (n+m)∧H'=F g' (l++news),?_,fun d H' ⟨g',k1,k2,k3⟩=>k2▸k3▸hk g' k1⟩
  intro w L0 ε hi hx
  have hi':=hi.perm p1
  obtain⟨Φ,hop,hc⟩:=ZgN T (E:=E) (H:=shp g e esz l X) (K:=fun d G=> ∃g',gOk g' (n+m)∧d= .gs g' (n+m)∧G=shp g' e esz (l++news) X) ho (by
   rw[hkd,hs0]
   exact⟨l,X,news,m,rfl,hl,ZiZ p1 hi.nodup hsrc,hb,fun g' k1 _=>⟨g',k1,rfl,rfl⟩⟩)
  refine(hop w L0 ε hi' (fun y hy=>by rw[v'a p1];exact hx y hy)).mono fun v w' ⟨d,G,h1,h2,h3,h4⟩=>?_
  obtain⟨g',k1,k2,k3⟩:=hc d G h1
  subst k3
  refine⟨d,_,⟨g',k1,k2,rfl⟩,?_,h3.perm (p2 g' _),h4.perm p1.symm (p2 g' _)⟩
  rw[v'a (p2 g' _)];exact h2
 ·rename_i e esz eb ea ez full esz' rows hkd hs0
  exact ZgN T ho (by rw[hkd,hs0];exact hk)
 ·exact hk.elim
theorem VC.nodup {P:Program} {n:Nat} {c:Code} {s:St} {Q:Exit→St→Prop} (h:s.heap.blocks.Nodup→VC P n c s Q):VC P n c s Q:=fun x a w hn hs=>h hs.inv.nodup x a w hn hs
theorem Weak.heap {env:Nat→D} {H H':Heap} (h:H'.Sublist H):Weak ⟨env,H⟩ ⟨env,H'⟩:=fun x a w hs=>
 {env:=fun t=>Rel.mono (SubH.live h w x.L0) _ _ (hs.env t)
  inv:=SubH.inv h hs.inv,evo:=SubH.evo h hs.evo,defers:=hs.defers,size:=hs.size}
theorem Weak.subH {env:Nat→D} {env':List (Nat×D)} {H H':Heap} (hh:H'.Sublist H) (h:Vc.sub env env'):Weak ⟨env,H⟩ ⟨x'K env',H'⟩:=fun x a w hs=>
 Weak.heap hh x a w ((Weak.sub (H:=H) h) x a w hs)
theorem Zbq {esz:Nat}: ∀(rows:List (List D)),(∀r,r∈rows→r.length=esz)→x'z esz rows.length rows.flatten=rows
 |[],_=>rfl
 |r::rs,h=>by
  have h1:=h r (z'k ..)
  rw[z'A,x'z,z'W,List.take_left' h1,List.drop_left' h1,Zbq rs fun r hr=>h r (z'n _ hr)]
theorem Zdf {esz:Nat}: ∀(rows:List (List D)),(∀r,r∈rows→r.length=esz)→rows.flatten.length=rows.length*esz
 |[],_=>by simp
 |r::rs,h=>by
  rw[z'W,z'r,h r (z'k ..),Zdf rs fun r hr=>h r (z'n _ hr),z'A,y'F];omega
theorem Fun.freeze {P:Program} {f:FuncId} {args:List D} {esz:Nat} {rows:List (List D)} (hr: ∀r,r∈rows→r.length=esz)
  (h:Fun P f args [] false (fun d H'=> ∃g e,d= .gs g rows.length∧H'=shp g e esz rows.flatten [])):Pure P f args (.sl false esz rows):=by
 refine⟨h.1,fun w L0 vs hi hv=>(h.2 w L0 vs hi hv).mono fun ee w' ⟨v,he,d,H',⟨g,e,hd,hH⟩,h2,h3,h4⟩=>?_⟩
 subst hd;subst hH
 refine⟨v,he,.sl false esz rows,[],⟨rfl,rfl⟩,?_,SubH.inv (z'T _) h3,SubH.evo (z'T _) h4⟩
 rw[Rel]at h2
 obtain⟨rfl,hg⟩:=h2
 cases g with
 |none=>
  have h0:rows=[]:=z'M hg
  subst h0
  exact⟨none,0,rfl,⟨z'c _,fun _=>rfl⟩,fun h=>(by cases h),.inl rfl⟩
 |some p=>
  obtain⟨b,cap⟩:=p
  refine⟨some ⟨b,0,none⟩,cap,rfl,⟨hg,fun h=>(by cases h)⟩,fun h=>(by cases h),.inr ⟨b,0,rfl,?_⟩⟩
  have hc:=h3.rel b _ (z'k ..)
  have hone:=hc.1
  obtain⟨cs,hcs,hcell⟩:=HRel.cells hc
  have hb: ¬live [] (fun b=>L0 b∨(false=true∧b<w.heap.size∧b∉Heap.blocks [])) b:=fun hl=>by
   rcases hl with(hl|hl)|hl
   ·exact h3.apart b (by simp[Heap.blocks,shp]) hl
   ·cases hl.1
   ·simp[Heap.blocks]at hl
  have hkeep:Keeps w' (live (shp (some (b,cap)) e esz rows.flatten []) L0) w' (live [] (fun b=>L0 b∨(false=true∧b<w.heap.size∧b∉Heap.blocks []))):=Keeps.less fun k _ hl=>by
   rcases hl with(hl|hl)|hl
   ·exact .inl hl
   ·cases hl.1
   ·simp[Heap.blocks]at hl
  have:=RowsAt.of (esz:=esz) hb rows.length rows.flatten cs 0 (by rw[Zdf _ hr];exact z'c _) hone (RelL.mono hkeep _ _ hcs) (fun j v hv=>by simpa using hcell j v hv)
  rwa [Zbq _ hr]at this
def EqS (P:Program) (t:TypeId) (l1 l2:List Value) (r:Bool):Prop:=
 P.eqGuardType P.depth t=false∧ ∀w,(Op.equalIn 10000 t (.agg l1.toArray) (.agg l2.toArray)).run P w= .ok r w
theorem RelL.is {w:World} {L:Nat→Prop}: ∀(l:List Value) (vs:List Value),RelL w L (l.map D.is) vs→vs=l
 |[],vs,h=>h
 |v::l,vs,h=>by
  rw[z'g,RelL]at h
  obtain⟨u,r,rfl,h1,h2⟩:=h
  rw[RelL.is l r h2,show u=v from h1]
theorem ZeX {P:Program} {t:TypeId} (h:P.eqGuardType P.depth t=false) (op:BinOp) (x y:Operand) (a b:Array Value) (w:World):(eqGuard op t x y (.agg a) (.agg b)).run P w= .ok () w:=by
 unfold eqGuard
 refine Zc7 rfl ?_
 refine(z'a (a:=P) (w':=w) rfl).trans ?_
 simp[h]
theorem v'E {b:Nat} {c:HC} {H:Heap}:y'Z ((b,c)::H) b=some c:=by simp[y'Z]
theorem Zan {k b:Nat} {c:HC} {H:Heap} (h: ¬k=b):y'Z ((k,c)::H) b=y'Z H b:=by
 have:(k == b)=false:=by simpa using h
 simp[y'Z,this]
theorem ZeP {b:Nat} {c c':HC} {H:Heap}:hset ((b,c)::H) b c'=(b,c')::H:=by simp[hset]
theorem ZeQ {k b:Nat} {c c':HC} {H:Heap} (h: ¬k=b):hset ((k,c)::H) b c'=(k,c)::hset H b c':=by
 have:(k == b)=false:=by simpa using h
 simp[hset,this]
def x'g (op:BinOp) (r:Bool):Option Bool:=match op with| .eql=>some r| .neq=>some !r|_=>none
theorem Op1.eqS {P:Program} {o:Oper} {E:Operand→D} {H:Heap} {K:D→Heap→Prop} {op:BinOp} {t u:TypeId} {x y:Operand} {l1 l2:List Value} {r r':Bool} (ho:o.op= .binOp op t x y u)
  (h:EqS P t l1 l2 r) (hx0:E x= .agg (l1.map D.is)) (hy0:E y= .agg (l2.map D.is)) (hr:x'g op r=some r') (hk:K (.is (.bool r')) H):Op1 P o E H K:=by
 refine Op1.value (d:= .is (.bool r')) (fun w L0 ε hi hx=>?_) hk
 have h1:=hx x (by simp[ho,Op.operands])
 have h2:=hx y (by simp[ho,Op.operands])
 rw[hx0,Rel]at h1
 rw[hy0,Rel]at h2
 obtain⟨_,c1,e1,q1⟩:=h1
 obtain⟨_,c2,e2,q2⟩:=h2
 have d1:c1=l1.toArray:=by rw[←RelL.is _ _ q1]
 have d2:c2=l2.toArray:=by rw[←RelL.is _ _ q2]
 subst d1;subst d2
 refine⟨_,?_,rfl⟩
 have he:(Op.equal t (.agg l1.toArray) (.agg l2.toArray)).run P w= .ok r w:=h.2 w
 simp only[execOp,ho,e1,e2]
 refine(z'a (a:= .bool r') (w':=w) ?_).trans rfl
 rw[z'a (ZeX h.1 op x y _ _ w)]
 cases op<;>simp only[x'g]at hr<;>cases hr
 ·show(Op.equal t _ _>>=fun r=>pure (Value.bool r)).run P w=_
  rw[z'a (a:=r) (w':=w) he];rfl
 ·show(Op.equal t _ _>>=fun r=>pure (Value.bool (!r))).run P w=_
  rw[z'a (a:=r) (w':=w) he];rfl
end Go.Vc
