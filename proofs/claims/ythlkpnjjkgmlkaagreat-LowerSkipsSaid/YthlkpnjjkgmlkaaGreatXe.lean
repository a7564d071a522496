/- Contracts: the reference's pop. No condition. -/
import Derived.Test.YthlkpnjjkgmlkaaGreatXa
import Derived.Test.YthlkpnjjkgmlkaaGreatK2
namespace Go.Proofs.YthlkpnjjkgmlkaaGreat
set_option maxHeartbeats 16000000
set_option linter.unusedSimpArgs false
set_option linter.unusedVariables false
set_option maxRecDepth 20000
open Go Go.Proofs Go.Vc
attribute [local irreducible] x'r VCg VCw VCx
mutual
theorem Fz.more {H H':Heap} (hs: ∀x,x∈H→x∈H'): ∀(d' d:D),Fz H d' d→Fz H' d' d
 | .sl full esz rows,d,h=>by
  rcases h with h|⟨h1,h|h|⟨b,o,n,cap,h2,h3,e,k,l,h4,h5⟩⟩
  ·exact .inl h
  ·exact .inr ⟨h1,.inl h⟩
  ·exact .inr ⟨h1,.inr (.inl h)⟩
  ·exact .inr ⟨h1,.inr (.inr ⟨b,o,n,cap,h2,h3,e,k,l,hs _ h4,FzR.more hs esz rows _ h5⟩)⟩
 | .pt row,d,h=>by
  rcases h with h|⟨b,o,e,k,l,h1,h2,h3⟩
  ·exact .inl h
  ·exact .inr ⟨b,o,e,k,l,h1,hs _ h2,FzC.more hs row _ h3⟩
 | .agg l',d,h=>by
  obtain⟨l,h1,h2⟩:=h
  exact⟨l,h1,FzL.more hs l' l h2⟩
 | .tup l',d,h=>by
  obtain⟨l,h1,h2⟩:=h
  exact⟨l,h1,FzL.more hs l' l h2⟩
 | .ifc t x',d,h=>by
  obtain⟨x,h1,h2⟩:=h
  exact⟨x,h1,Fz.more hs x' x h2⟩
 | .is _,d,h=>h
 | .gs _ _,d,h=>h
 | .os _ _ _ _,d,h=>h
 | .any,d,h=>h
theorem FzL.more {H H':Heap} (hs: ∀x,x∈H→x∈H'): ∀(l' l:List D),FzL H l' l→FzL H' l' l
 |[],l,h=>h
 |d'::ds',l,h=>by
  obtain⟨d,ds,h1,h2,h3⟩:=h
  exact⟨d,ds,h1,Fz.more hs d' d h2,FzL.more hs ds' ds h3⟩
theorem FzC.more {H H':Heap} (hs: ∀x,x∈H→x∈H'): ∀(l' l:List D),FzC H l' l→FzC H' l' l
 |[],l,h=>trivial
 |d'::ds',l,h=>by
  obtain⟨d,ds,h1,h2,h3⟩:=h
  exact⟨d,ds,h1,Fz.more hs d' d h2,FzC.more hs ds' ds h3⟩
theorem FzR.more {H H':Heap} (hs: ∀x,x∈H→x∈H') (esz:Nat): ∀(rows:List (List D)) (l:List D),FzR H esz rows l→FzR H' esz rows l
 |[],l,h=>trivial
 |r::rs,l,h=>⟨h.1,FzC.more hs r l h.2.1,FzR.more hs esz rs _ h.2.2⟩
end
abbrev Opc:=Int×Int×Int
def opR (x:Opc):List D:=[iD x.1,iD x.2.1,iD x.2.2]
def x'J (l:List Opc):List (List D):=l.map opR
abbrev y'0 (l:List Opc):D:= .sl false 3 (x'J l)
structure Ins where
 op:Int
 reg:Int
 loc:Int
 e:List Opc
 f:List Opc
 ne:Bool
 to:Int
def insR (x:Ins):List D:=[iD x.op,iD x.reg,iD x.loc,y'0 x.e,y'0 x.f,bD x.ne,iD x.to]
def y'Y (l:List Ins):List (List D):=l.map insR
def Zaj (c:List (List Ins)):List (List D):=c.map fun l=>[.sl false 7 (y'Y l)]
structure Un where
 md:Int
 init:List Int
 regs:List Int
 code:List (List Ins)
abbrev unC (u:Un):List D:=[iD u.md,w'H u.init,w'H u.regs,.sl false 1 (Zaj u.code)]
def ZtH (l:List (List Int)):List (List D):=l.map fun r=>[w'H r]
structure Cf where
 pc:List Int
 regs:List (List Int)
 mem:List Int
 bufs:List (List En)
theorem y'q (l:List Opc):(x'J l).length=l.length:=z'i ..
theorem ZlX (l:List Opc) (i:Nat):(x'J l)[i]?=(l[i]?).map opR:=z'K ..
theorem y'W (l:List Ins):(y'Y l).length=l.length:=z'i ..
theorem Zkg (l:List Ins) (i:Nat):(y'Y l)[i]?=(l[i]?).map insR:=z'K ..
theorem w'r (l:List (List Ins)):(Zaj l).length=l.length:=z'i ..
theorem ZnD (l:List (List Ins)) (i:Nat):(Zaj l)[i]?=(l[i]?).map fun l=>[.sl false 7 (y'Y l)]:=z'K ..
def Zdj (c:Cf) (t loc:Int):Int:=match decide (0≤t),c.bufs[t.toNat]?,decide (0≤loc),c.mem[loc.toNat]? with
 |true,some b,true,some n=>(Zdg loc b).getD n
 |_,_,_,_=>0
def ZgW (c:Cf) (m t loc:Int):Bool:=match decide (0≤t),c.bufs[t.toNat]? with
 |true,some b=>(ZcM m loc b).2.2
 |_,_=>false
def tI (b:Bool):Int:=match b with|true=>1|false=>0
def Zni (op a b md:Int):Int:=
 if op=6 then(a+b).tmod md else if op=7 then(a-b+md).tmod md else if op=8 then(a*b).tmod md else if op=9 then tI (a == b)else if op=10 then tI (a != b)
 else if op=11 then tI (decide (a<b))else if op=12 then tI (decide (a≤b))else if op=13 then tI ((a != 0)&&(b != 0))else tI ((a != 0)||(b != 0))
def z'S (s:ByteArray) (c:UInt8):Bool:=s.data.toList.any fun x=>decide (x=c)
def Zav (o:Option ByteArray):D:= .tup [sD (o.getD ⟨#[]⟩),bD o.isSome]
def Zd7 (x:Ins):Bool:=decide (x.op=22)&&(decide (x.reg=0)&&(decide (x.loc=0)&&(decide (x.e.length=0)&&(decide (x.f.length=0)&&(!x.ne&&decide (x.to=0))))))
def x'c (op:Int) (n:Int):Option Int:=
 if 1≤op∧op≤4 then some (n+1)else if op=5∧1≤n then some n else if (6≤op∧op≤14)∧2≤n then some (n-1)else none
def v'k:List Opc→Int→Int→Option (Int×Int)
 |[],n,most=>some (n,most)
 |x::r,n,most=>match x'c x.1 n with
  |some n'=>v'k r n' (max most n')
  |none=>none
theorem Zdi {P:Program} {o:Oper} {E:Operand→D} {H:Heap} {K:D→Heap→Prop} {x y:Operand} {ts:Array TypeId} {k:IntKind} {a b:Int} (ho:o.op= .call ⟨.builtin .max, #[x,y],ts⟩) (ha:E x= .is (.int k a)) (hb:E y= .is (.int k b)) (hk:K (.is (.int k (max a b))) H):Op1 P o E H K:=by
 refine Op1.value (d:= .is (.int k (max a b))) (fun w L0 ε hi hx=>?_) hk
 have h1:=hx x (by simp[ho,Op.operands,Call.operands])
 have h2:=hx y (by simp[ho,Op.operands,Call.operands])
 rw[ha]at h1;rw[hb]at h2
 have h1':ε x= .int k a:=h1
 have h2':ε y= .int k b:=h2
 refine⟨.int k (max a b),?_,rfl⟩
 simp only[execOp,ho,resolve,invoke,builtin]
 simp[go_sem,h1',h2',Builtin.max_,Builtin.max2]
 split<;>omega
theorem Zbh (x:Opc) (r:List Opc) (n most:Int):v'k (x::r) n most=(match x'c x.1 n with|some n'=>v'k r n' (max most n')|none=>none):=rfl
def ZtC (o:Option (Int×Int)):D:=match o with|some p=> .tup [iD p.1,iD p.2]|none=> .tup [iD (-1),iD (-1)]
theorem Znu {α:Type} {l:List α} {p:α→Bool} (h: ∀(i:Nat) (x:α),i<l.length→l[i]?=some x→p x=true):l.all p=true:=by
 rw[z'l]
 intro x hx
 obtain⟨i,hi⟩:=y'u hx
 exact h i x (z'z.1 hi).1 hi
theorem Zll {α:Type} {l:List α} {p:α→Bool} {i:Nat} {x:α} (h:l[i]?=some x) (hp:p x=false):l.all p=false:=by
 rw[w'A]
 exact⟨x,z'E h,by simp[hp]⟩
theorem Zmf {α:Type} {l:List α} {p:α→Bool} {k:Nat} {x:α} (hs: ∀(i:Nat) (y:α),i<k→l[i]?=some y→p y=true) (hx:l[k]?=some x) (hp:p x=true): ∀(i:Nat) (y:α),i<k+1→l[i]?=some y→p y=true:=fun i y hi hy=>by
 rcases z'g i k with h|h
 ·exact hs i y h hy
 ·obtain rfl:i=k:=by omega
  rw[hx]at hy;cases hy;exact hp
def x'x (rs:List Int) (own locs:Int) (x:Opc):Bool:=
 if x.1=1 then inB x.2.1 10000 else if x.1=2 then inB x.2.1 own else if x.1=3 then inB x.2.1 locs
 else if x.1=4 then inB x.2.2 rs.length&&inB x.2.1 ((rs[x.2.2.toNat]?).getD 0)else true
def oneL (o:Option (Int×Int)):Bool:=match o with|some p=>p.1 == 1|none=>false
def v'j (l:List Opc) (rs:List Int) (own locs:Int):Bool:=(l.all (x'x rs own locs))&&oneL (v'k l 0 0)
def fnO (op:Int):Nat:=if op=6 then 194 else if op=7 then 195 else if op=8 then 196 else if op=9 then 197 else if op=10 then 198 else if op=11 then 199
 else if op=12 then 200 else if op=13 then 201 else 202
abbrev fD (f:Nat):D:= .is (.func (.func f) #[] #[])
def ofD (op:Int):D:=if op=5 then .tup [.agg [iD 1,fD 192],bD true]else if 6≤op∧op≤14 then .tup [.agg [iD 2,fD (fnO op)],bD true]else .tup [.agg [iD 0,.is .nilFunc],bD false]
def opTab:List D:=[iD 0,.is .nilFunc,iD 0,.is .nilFunc,iD 0,.is .nilFunc,iD 0,.is .nilFunc,iD 0,.is .nilFunc,iD 1,fD 192,iD 2,fD 194,iD 2,fD 195,iD 2,fD 196,iD 2,fD 197,iD 2,fD 198,iD 2,fD 199,iD 2,fD 200,iD 2,fD 201,iD 2,fD 202]
theorem Zp2 (op:Int) (h:5≤op∧op≤14): ∃tk f,(opTab.drop (op.toNat*2)).take 2=[iD tk,fD f]∧ofD op= .tup [.agg [iD tk,fD f],bD true]:=by
 obtain⟨k,rfl⟩: ∃k:Nat,op=(k:Int)+5:=⟨(op-5).toNat,by omega⟩
 have hk:k≤9:=by omega
 match k,hk with
 |0,_=>exact⟨_,_,rfl,rfl⟩
 |1,_=>exact⟨_,_,rfl,rfl⟩
 |2,_=>exact⟨_,_,rfl,rfl⟩
 |3,_=>exact⟨_,_,rfl,rfl⟩
 |4,_=>exact⟨_,_,rfl,rfl⟩
 |5,_=>exact⟨_,_,rfl,rfl⟩
 |6,_=>exact⟨_,_,rfl,rfl⟩
 |7,_=>exact⟨_,_,rfl,rfl⟩
 |8,_=>exact⟨_,_,rfl,rfl⟩
 |9,_=>exact⟨_,_,rfl,rfl⟩
theorem Zm0 (op:Int):Pure Tryz.prog 131 [iD op] (ofD op):=by
 refine Fun.of T [.cell 2 186,.tmp 3] Tryz.func131 rfl Tryz.ntmps131 Tryz.results131 rfl (by kernel_rfl) ?_
 by_cases h5:op<5
 ·have e5:decide (op<5)=true:=by simpa using h5
  have hD:ofD op= .tup [.agg [iD 0,.is .nilFunc],bD false]:=by unfold ofD;rw[if_neg (by omega),if_neg (by omega)]
  rw[hD]
  repeat' first|refine vt rfl fun K hK=>?_;refine ZeG T (t:=239) (ps:=[(5,.tmp 5),(6,.tmp 6),(7,.tmp 7),(8,.tmp 8),(9,.tmp 9),(10,.tmp 10),(11,.tmp 11),(12,.tmp 12),(13,.tmp 13),(14,.tmp 14)]) rfl (by rw[T239];rfl) (by(simp (disch:=omega) only[go_sem,Nat.reduceBEq,Nat.reduceAdd,Nat.reduceMul]);rfl) (by rfl) (hK _ _ ?_);clear hK K;(try simp only[updO])|refine mq1 @e5 ?_|refine mqn fun bq hbq=>?_|exact ZbV T rfl (by(simp (disch:=omega) only[hget_ne,hget_eq])<;>rfl) rfl rfl rfl (z'a _) ⟨rfl,rfl⟩|fail
 have e5:decide (op<5)=false:=by simpa using h5
 by_cases h15:op≥15
 ·have e15:decide (op≥15)=true:=by simpa using h15
  have hD:ofD op= .tup [.agg [iD 0,.is .nilFunc],bD false]:=by unfold ofD;rw[if_neg (by omega),if_neg (by omega)]
  rw[hD]
  repeat' first|refine vt rfl fun K hK=>?_;refine ZeG T (t:=239) (ps:=[(5,.tmp 5),(6,.tmp 6),(7,.tmp 7),(8,.tmp 8),(9,.tmp 9),(10,.tmp 10),(11,.tmp 11),(12,.tmp 12),(13,.tmp 13),(14,.tmp 14)]) rfl (by rw[T239];rfl) (by(simp (disch:=omega) only[go_sem,Nat.reduceBEq,Nat.reduceAdd,Nat.reduceMul]);rfl) (by rfl) (hK _ _ ?_);clear hK K;(try simp only[updO])|refine mq1 (mqt2 @e5 @e15) ?_|refine mqn fun bq hbq=>?_|exact ZbV T rfl (by(simp (disch:=omega) only[hget_ne,hget_eq])<;>rfl) rfl rfl rfl (z'a _) ⟨rfl,rfl⟩|fail
 have e15:decide (op≥15)=false:=by simpa using h15
 obtain⟨tk,f,h1,h2⟩:=Zp2 op (by omega)
 rw[h2]
 simp only[opTab]at h1
 repeat' first|refine vt rfl fun K hK=>?_;refine ZeG T (t:=239) (ps:=[(5,.tmp 5),(6,.tmp 6),(7,.tmp 7),(8,.tmp 8),(9,.tmp 9),(10,.tmp 10),(11,.tmp 11),(12,.tmp 12),(13,.tmp 13),(14,.tmp 14)]) rfl (by rw[T239];rfl) (by(simp (disch:=omega) only[go_sem,Nat.reduceBEq,Nat.reduceAdd,Nat.reduceMul]);rfl) (by rfl) (hK _ _ ?_);clear hK K;(try simp only[updO])|refine vt rfl fun K hK=>ZkG T rfl rfl rfl rfl (by omega) (hK _ _ ?_);(try simp only[updO])|refine mq1 (mqt3 @e5 @e15 @h1) ?_|refine mqn fun bq hbq=>?_|refine .wk ?_ ?_;focus(try omega)|exact ZbV T rfl (by(simp (disch:=omega) only[hget_ne,hget_eq])<;>rfl) rfl rfl rfl (z'a _) ⟨rfl,rfl⟩|fail
theorem HRel.cut {w:World} {L:Nat→Prop} {b n k:Nat} {ty:TypeId} {l:List D} (h:HRel w L b (.cells ty n l)):HRel w L b (.cells ty n (l.take k)):=by
 obtain⟨h1,arr,h2,h3,h4⟩:=h
 refine⟨ZaB h1 k,arr,h2,h3,?_⟩
 have:=RelL.take k _ _ h4
 rw[List.take_take]at this
 rwa [z'T]
theorem Weak.cut {env:Nat→D} {g:Option (Nat×Nat)} {e:TypeId} {esz k:Nat} {l:List D} {X:Heap}:Weak ⟨env,shp g e esz l X⟩ ⟨env,shp g e esz (l.take k) X⟩:=fun x a w h=>by
 cases g with
 |none=>exact h
 |some p=>
  obtain⟨b,cap⟩:=p
  have hbl:(shp (some (b,cap)) e esz (l.take k) X).blocks=(shp (some (b,cap)) e esz l X).blocks:=rfl
  have hlv:live (shp (some (b,cap)) e esz (l.take k) X) x.L0=live (shp (some (b,cap)) e esz l X) x.L0:=by
   funext b'
   simp only[live,hbl]
  refine{env:=fun t=>by rw[hlv];exact h.env t,inv:=?_,evo:=?_,defers:=h.defers,size:=h.size}
  ·refine{rel:=fun b' c hm=>?_,nodup:=by rw[hbl];exact h.inv.nodup,apart:=fun b' hb=>h.inv.apart b' (by rw[←hbl];exact hb),old:=h.inv.old}
   rw[hlv]
   rcases z'v.1 hm with hm|hm
   ·cases hm
    exact HRel.cut (h.inv.rel b _ (z't ..))
   ·exact h.inv.rel b' c (z'o _ hm)
  ·exact⟨h.evo.os,h.evo.tape,h.evo.output,h.evo.size,h.evo.block,fun b' hb=>h.evo.fresh b' (by rw[←hbl];exact hb)⟩
end Go.Proofs.YthlkpnjjkgmlkaaGreat
