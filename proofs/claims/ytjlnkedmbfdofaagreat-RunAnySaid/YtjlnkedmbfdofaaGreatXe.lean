/- Units and configurations as data; contracts of the reference's store. No condition. -/
import Derived.Test.YtjlnkedmbfdofaaGreatWj
namespace Go.Proofs.YtjlnkedmbfdofaaGreat
set_option linter.unusedSimpArgs false
set_option linter.unusedVariables false
set_option maxRecDepth 20000
open Go Go.Proofs Go.Vc
attribute [local irreducible] z'Z VCg VCw VCx
def inB (n m:Int):Bool:=decide (n≥0)&&decide (n<m)
def y'G (l:List Int) (m:Int):Bool:=l.all fun n=>inB n m
mutual
theorem Fz.more {H H':Heap} (hs: ∀x,x∈H→x∈H'): ∀(d' d:D),Fz H d' d→Fz H' d' d
 | .sl full esz rows,d,h=>by
  rcases h with h|⟨h1,h|h|⟨b,o,n,cap,h2,h3,e,k,l,h4,h5⟩⟩
  ·exact .inl h
  ·exact .inr ⟨h1,.inl h⟩
  ·exact .inr ⟨h1,.inr (.inl h)⟩
  ·exact .inr ⟨h1,.inr (.inr ⟨b,o,n,cap,h2,h3,e,k,l,hs _ h4,FzR.more hs esz rows _ h5⟩)⟩
 | .pt row,d,h=>by
  rcases h with h|⟨b,o,e,k,l,h1,h2,h3⟩
  ·exact .inl h
  ·exact .inr ⟨b,o,e,k,l,h1,hs _ h2,FzC.more hs row _ h3⟩
 | .agg l',d,h=>by
  obtain⟨l,h1,h2⟩:=h
  exact⟨l,h1,FzL.more hs l' l h2⟩
 | .tup l',d,h=>by
  obtain⟨l,h1,h2⟩:=h
  exact⟨l,h1,FzL.more hs l' l h2⟩
 | .ifc t x',d,h=>by
  obtain⟨x,h1,h2⟩:=h
  exact⟨x,h1,Fz.more hs x' x h2⟩
 | .is _,d,h=>h
 | .gs _ _,d,h=>h
 | .os _ _ _ _,d,h=>h
 | .any,d,h=>h
theorem FzL.more {H H':Heap} (hs: ∀x,x∈H→x∈H'): ∀(l' l:List D),FzL H l' l→FzL H' l' l
 |[],l,h=>h
 |d'::ds',l,h=>by
  obtain⟨d,ds,h1,h2,h3⟩:=h
  exact⟨d,ds,h1,Fz.more hs d' d h2,FzL.more hs ds' ds h3⟩
theorem FzC.more {H H':Heap} (hs: ∀x,x∈H→x∈H'): ∀(l' l:List D),FzC H l' l→FzC H' l' l
 |[],l,h=>trivial
 |d'::ds',l,h=>by
  obtain⟨d,ds,h1,h2,h3⟩:=h
  exact⟨d,ds,h1,Fz.more hs d' d h2,FzC.more hs ds' ds h3⟩
theorem FzR.more {H H':Heap} (hs: ∀x,x∈H→x∈H') (esz:Nat): ∀(rows:List (List D)) (l:List D),FzR H esz rows l→FzR H' esz rows l
 |[],l,h=>trivial
 |r::rs,l,h=>⟨h.1,FzC.more hs r l h.2.1,FzR.more hs esz rs _ h.2.2⟩
end
abbrev Opc:=Int×Int×Int
structure Ins where
 op:Int
 reg:Int
 loc:Int
 e:List Opc
 f:List Opc
 ne:Bool
 to:Int
structure Un where
 md:Int
 init:List Int
 regs:List Int
 code:List (List Ins)
def Zn4 (l:List (List Int)):List (List D):=l.map fun r=>[v'7 r]
structure Cf where
 pc:List Int
 regs:List (List Int)
 mem:List Int
 bufs:List (List En)
def ZaZ (c:Cf) (t loc:Int):Int:=match decide (0≤t),c.bufs[t.toNat]?,decide (0≤loc),c.mem[loc.toNat]? with
 |true,some b,true,some n=>(ZaY loc b).getD n
 |_,_,_,_=>0
def ZdQ (c:Cf) (m t loc:Int):Bool:=match decide (0≤t),c.bufs[t.toNat]? with
 |true,some b=>(ZaC m loc b).2.2
 |_,_=>false
def tI (b:Bool):Int:=match b with|true=>1|false=>0
def Zi1 (op a b md:Int):Int:=
 if op=6 then(a+b).tmod md else if op=7 then(a-b+md).tmod md else if op=8 then(a*b).tmod md else if op=9 then tI (a == b)else if op=10 then tI (a != b)
 else if op=11 then tI (decide (a<b))else if op=12 then tI (decide (a≤b))else if op=13 then tI ((a != 0)&&(b != 0))else tI ((a != 0)||(b != 0))
def Zlf (x:Ins):Bool:=decide (x.op=22)&&(decide (x.reg=0)&&(decide (x.loc=0)&&(decide (x.e.length=0)&&(decide (x.f.length=0)&&(!x.ne&&decide (x.to=0))))))
structure OkC (c:Cf):Prop where
 pc:c.pc.length≤1000
 mem:c.mem.length≤1000
 regs:c.regs.length≤1000
 row: ∀r,r∈c.regs→r.length≤1000
 bufs:c.bufs.length≤1000
 buf: ∀b,b∈c.bufs→b.length≤1000
def ZbY (m r md:Int):Bool:=decide (1≤m)&&decide (m≤3)&&(decide (1≤r)&&decide (r≤4)&&decide (2≤md)&&decide (md≤16))
def Zc8 (m r:Int) (b:List En):Bool:=(decide (m≠1)&&(decide (m=3)||decide ((b.length:Int)≤r)))||decide ((b.length:Int)=0)
def x'W (m r md lc:Int) (b:List En):Bool:=ZbY m r md&&((List.range b.length).all fun i=> !ZdM m r md lc b i)&&Zc8 m r b
end Go.Proofs.YtjlnkedmbfdofaaGreat
