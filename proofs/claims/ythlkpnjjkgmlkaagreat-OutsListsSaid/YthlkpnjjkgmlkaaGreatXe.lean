/- Graphs, node by node, in plain Lean. No condition. -/
import Derived.Test.YthlkpnjjkgmlkaaGreatWb
import Derived.Test.YthlkpnjjkgmlkaaGreatWj
namespace Go.Proofs.YthlkpnjjkgmlkaaGreat
set_option maxHeartbeats 16000000
set_option linter.unusedSimpArgs false
set_option linter.unusedVariables false
open Go Go.Proofs Go.Vc
attribute [local irreducible] x'c VCg VCw VCx
abbrev Ed:=Int×Int×Int
def ZgY (l:List Ed) (i:Nat):List Ed:=l.filter fun e=>e.1 == (i:Int)
def upE (l:List Ed) (i:Nat):List Ed:=(List.range i).flatMap (ZgY l)
theorem ZlH (l:List Ed):upE l 0=[]:=rfl
theorem Zg8 (l:List Ed) (i:Nat):upE l (i+1)=upE l i++ZgY l i:=by
 unfold upE;rw[y'h,List.flatMap_append];simp
def Zau (l:List Ed):Prop:=l.Pairwise fun a b=>a.1≤b.1
theorem Zox {l:List Ed} (h:Zau l) (i:Nat):(l.filter fun e=>decide (e.1<(i:Int)))++ZgY l i=l.filter fun e=>decide (e.1<((i+1:Nat):Int)):=by
 induction l with
 |nil=>rfl
 |cons e l ih=>
  have h':=List.pairwise_cons.1 h
  have ih:=ih h'.2
  unfold ZgY at ih⊢
  rcases Int.lt_trichotomy e.1 i with hlt|heq|hgt
  ·rw[x'T (by simpa using hlt),List.filter_cons_of_neg (by simp;omega),x'T (by simp;omega),z'N,ih]
  ·have hn:(l.filter fun e=>decide (e.1<(i:Int)))=[]:=by
    rw[x'k]
    intro x hx
    have:=h'.1 x hx
    simp;omega
   rw[hn,z'H]at ih
   rw[List.filter_cons_of_neg (by simp;omega),x'T (by simpa using heq),x'T (by simp;omega),hn,z'H,ih]
  ·have h1: ∀x,x∈e::l→(i:Int)<x.1:=fun x hx=>by
    rcases z't.1 hx with rfl|hx
    ·exact hgt
    ·have:=h'.1 x hx;omega
   have a1:((e::l).filter fun e=>decide (e.1<(i:Int)))=[]:=x'k.2 fun x hx=>by have:=h1 x hx;simp;omega
   have a2:((e::l).filter fun e=>e.1 == (i:Int))=[]:=x'k.2 fun x hx=>by have:=h1 x hx;simp;omega
   have a3:((e::l).filter fun e=>decide (e.1<((i+1:Nat):Int)))=[]:=x'k.2 fun x hx=>by have:=h1 x hx;simp;omega
   rw[a1,a2,a3];rfl
theorem ZlG {l:List Ed} (h:Zau l) (h0: ∀e,e∈l→0≤e.1): ∀i:Nat,upE l i=l.filter fun e=>decide (e.1<(i:Int))
 |0=>by
  rw[ZlH]
  symm
  rw[x'k]
  intro x hx
  have:=h0 x hx
  simp;omega
 |i+1=>by rw[Zg8,ZlG h h0 i,Zox h i]
theorem Zm6 {l:List Ed} (h:Zau l) (n:Nat) (h0: ∀e,e∈l→0≤e.1∧e.1<n):upE l n=l:=by
 rw[ZlG h (fun e he=>(h0 e he).1),List.filter_eq_self]
 intro e he
 simpa using(h0 e he).2
structure Cs where
 st:List Int
 ag:List Int
 to:List Int
def v'J (n:Nat) (l:List Ed):Cs:=⟨(List.range (n+1)).map fun i=>((upE l i).length:Int),(upE l n).map (·.2.1),(upE l n).map (·.2.2)⟩
theorem Zpx {l:List Ed} (h:Zau l) {k:Nat} {e:Ed} (he:l[k]?=some e):(l.countP fun x=>decide (x.1<e.1))+((l.take k).countP fun x=>x.1 == e.1)=k:=by
 obtain⟨hk,he'⟩:=z'g.1 he
 have hs:l=l.take k++e::l.drop (k+1):=by
  rw[←he', ←y'H hk,x'p]
 have hp:Zau (l.take k++e::l.drop (k+1)):=by rw[←hs];exact h
 obtain⟨p1,p2,p3⟩:=List.pairwise_append.1 hp
 have p4:=List.pairwise_cons.1 p2
 have e1:((e::l.drop (k+1)).countP fun x=>decide (x.1<e.1))=0:=by
  rw[List.countP_eq_zero]
  intro x hx
  rcases z't.1 hx with rfl|hx
  ·simp
  ·have:=p4.1 x hx;simp;omega
 have e2:(l.countP fun x=>decide (x.1<e.1))=((l.take k).countP fun x=>decide (x.1<e.1)):=by
  conv=>lhs;rw[hs]
  rw[List.countP_append,e1,x'B]
 rw[e2]
 have key: ∀m:List Ed,(∀x,x∈m→x.1≤e.1)→(m.countP fun x=>decide (x.1<e.1))+(m.countP fun x=>x.1 == e.1)=m.length:=by
  intro m
  induction m with
  |nil=>intro _;rfl
  |cons x m ih=>
   intro hm
   have h1:=ih fun y hy=>hm y (z'k _ hy)
   have h2:=hm x (z'n ..)
   rw[w'K,w'K,z'u]
   rcases Int.lt_or_eq_of_le h2 with h3|h3
   ·have: ¬x.1=e.1:=by omega
    simp[h3,this];omega
   ·simp[h3];omega
 rw[key _ fun x hx=>p3 x hx _ (z'n ..),z'y]
 omega
theorem ZpE {l:List Ed} (h:Zau l) (h0: ∀e,e∈l→0≤e.1) (i:Nat):(upE l i).length=l.countP fun e=>decide (e.1<(i:Int)):=by
 rw[ZlG h h0,x'N]
set_option maxRecDepth 20000
def inB (n m:Int):Bool:=decide (n≥0)&&decide (n<m)
def y'E (l:List Int) (m:Int):Bool:=l.all fun n=>inB n m
mutual
theorem Fz.more {H H':Heap} (hs: ∀x,x∈H→x∈H'): ∀(d' d:D),Fz H d' d→Fz H' d' d
 | .sl full esz rows,d,h=>by
  rcases h with h|⟨h1,h|h|⟨b,o,n,cap,h2,h3,e,k,l,h4,h5⟩⟩
  ·exact .inl h
  ·exact .inr ⟨h1,.inl h⟩
  ·exact .inr ⟨h1,.inr (.inl h)⟩
  ·exact .inr ⟨h1,.inr (.inr ⟨b,o,n,cap,h2,h3,e,k,l,hs _ h4,FzR.more hs esz rows _ h5⟩)⟩
 | .pt row,d,h=>by
  rcases h with h|⟨b,o,e,k,l,h1,h2,h3⟩
  ·exact .inl h
  ·exact .inr ⟨b,o,e,k,l,h1,hs _ h2,FzC.more hs row _ h3⟩
 | .agg l',d,h=>by
  obtain⟨l,h1,h2⟩:=h
  exact⟨l,h1,FzL.more hs l' l h2⟩
 | .tup l',d,h=>by
  obtain⟨l,h1,h2⟩:=h
  exact⟨l,h1,FzL.more hs l' l h2⟩
 | .ifc t x',d,h=>by
  obtain⟨x,h1,h2⟩:=h
  exact⟨x,h1,Fz.more hs x' x h2⟩
 | .is _,d,h=>h
 | .gs _ _,d,h=>h
 | .os _ _ _ _,d,h=>h
 | .any,d,h=>h
theorem FzL.more {H H':Heap} (hs: ∀x,x∈H→x∈H'): ∀(l' l:List D),FzL H l' l→FzL H' l' l
 |[],l,h=>h
 |d'::ds',l,h=>by
  obtain⟨d,ds,h1,h2,h3⟩:=h
  exact⟨d,ds,h1,Fz.more hs d' d h2,FzL.more hs ds' ds h3⟩
theorem FzC.more {H H':Heap} (hs: ∀x,x∈H→x∈H'): ∀(l' l:List D),FzC H l' l→FzC H' l' l
 |[],l,h=>trivial
 |d'::ds',l,h=>by
  obtain⟨d,ds,h1,h2,h3⟩:=h
  exact⟨d,ds,h1,Fz.more hs d' d h2,FzC.more hs ds' ds h3⟩
theorem FzR.more {H H':Heap} (hs: ∀x,x∈H→x∈H') (esz:Nat): ∀(rows:List (List D)) (l:List D),FzR H esz rows l→FzR H' esz rows l
 |[],l,h=>trivial
 |r::rs,l,h=>⟨h.1,FzC.more hs r l h.2.1,FzR.more hs esz rs _ h.2.2⟩
end
abbrev Opc:=Int×Int×Int
def opR (x:Opc):List D:=[iD x.1,iD x.2.1,iD x.2.2]
def Ziz (l:List Opc):List (List D):=l.map opR
abbrev y'8 (l:List Opc):D:= .sl false 3 (Ziz l)
structure Ins where
 op:Int
 reg:Int
 loc:Int
 e:List Opc
 f:List Opc
 ne:Bool
 to:Int
def Zbn (x:Ins):List D:=[iD x.op,iD x.reg,iD x.loc,y'8 x.e,y'8 x.f,bD x.ne,iD x.to]
def w'o (l:List Ins):List (List D):=l.map Zbn
def Zax (c:List (List Ins)):List (List D):=c.map fun l=>[.sl false 7 (w'o l)]
structure Un where
 md:Int
 init:List Int
 regs:List Int
 code:List (List Ins)
abbrev unC (u:Un):List D:=[iD u.md,y'c u.init,y'c u.regs,.sl false 1 (Zax u.code)]
def x'X (l:List (List Int)):List (List D):=l.map fun r=>[y'c r]
def x'6 (l:List (List En)):List (List D):=l.map fun b=>[buf b]
structure Cf where
 pc:List Int
 regs:List (List Int)
 mem:List Int
 bufs:List (List En)
abbrev cfC (c:Cf):List D:=[y'c c.pc,.sl false 1 (x'X c.regs),y'c c.mem,.sl false 1 (x'6 c.bufs)]
theorem y's (l:List Opc):(Ziz l).length=l.length:=z'i ..
theorem ZiA (l:List Opc) (i:Nat):(Ziz l)[i]?=(l[i]?).map opR:=z'J ..
theorem x'W (l:List Ins):(w'o l).length=l.length:=z'i ..
theorem ZcV (l:List Ins) (i:Nat):(w'o l)[i]?=(l[i]?).map Zbn:=z'J ..
theorem x'r (l:List (List Ins)):(Zax l).length=l.length:=z'i ..
theorem Zb3 (l:List (List Ins)) (i:Nat):(Zax l)[i]?=(l[i]?).map fun l=>[.sl false 7 (w'o l)]:=z'J ..
theorem y'4 (l:List (List Int)):(x'X l).length=l.length:=z'i ..
theorem Zaa (l:List (List Int)) (i:Nat):(x'X l)[i]?=(l[i]?).map fun r=>[y'c r]:=z'J ..
theorem y'u (l:List (List En)):(x'6 l).length=l.length:=z'i ..
theorem v'y (l:List (List En)) (i:Nat):(x'6 l)[i]?=(l[i]?).map fun b=>[buf b]:=z'J ..
def Zpv (c:Cf):Prop:= ∀b,b∈c.bufs→b.length≤1000
def w'g (c:Cf) (t loc:Int):Int:=match decide (0≤t),c.bufs[t.toNat]?,decide (0≤loc),c.mem[loc.toNat]? with
 |true,some b,true,some n=>(v'k loc b).getD n
 |_,_,_,_=>0
theorem Zlk (c:Cf) (hc:Zpv c) (t loc:Int):Pure Tryz.prog 332 [.agg (cfC c),iD t,iD loc] (iD (w'g c t loc)):=by
 refine Fun.of T [.tmp 6] Tryz.func332 rfl Tryz.ntmps332 Tryz.results332 rfl (by kernel_rfl) ?_
 by_cases h1:t<0
 ·have e1:decide (t<0)=true:=by simpa using h1
  have hr:w'g c t loc=0:=by simp[w'g,v'j.2 h1]
  rw[hr]
  repeat' first|refine vb rfl rfl rfl rfl ?_|refine vs T rfl fun K hK=>?_;(try simp (disch:=omega) only[go_sem,Nat.reduceBEq,Nat.reduceAdd,e1]);(refine hK _ _ ?_;clear hK K)|refine st rfl ?_|refine sc rfl ?_|refine nl ?_|refine gs rfl rfl ?_|exact z'A T (z'a _) ⟨rfl,rfl⟩
 have e1:decide (t<0)=false:=by simpa using h1
 obtain⟨i,rfl⟩: ∃i:Nat,t=(i:Int):=⟨t.toNat,by omega⟩
 by_cases h2:(i:Int)≥(c.bufs.length:Int)
 ·have e2:decide ((i:Int)≥(c.bufs.length:Int))=true:=by simpa using h2
  have hn:c.bufs[i]?=none:=z'L (by omega)
  have hr:w'g c i loc=0:=by simp[w'g,hn]
  rw[hr]
  repeat' first|refine vb rfl rfl rfl rfl ?_|refine vs T rfl fun K hK=>?_;(try simp (disch:=omega) only[go_sem,Nat.reduceBEq,Nat.reduceAdd,e1,e2,y'u]);(refine hK _ _ ?_;clear hK K)|refine st rfl ?_|refine sc rfl ?_|refine nl ?_|refine gs rfl rfl ?_|exact z'A T (z'a _) ⟨rfl,rfl⟩
 have e2:decide ((i:Int)≥(c.bufs.length:Int))=false:=by simpa using h2
 by_cases h3:loc<0
 ·have e3:decide (loc<0)=true:=by simpa using h3
  have hr:w'g c i loc=0:=by
   unfold w'g
   rw[decide_eq_false (v'j.2 h3)]
   split<;>simp_all
  rw[hr]
  repeat' first|refine vb rfl rfl rfl rfl ?_|refine vs T rfl fun K hK=>?_;(try simp (disch:=omega) only[go_sem,Nat.reduceBEq,Nat.reduceAdd,e1,e2,e3,y'u]);(refine hK _ _ ?_;clear hK K)|refine st rfl ?_|refine sc rfl ?_|refine nl ?_|refine gs rfl rfl ?_|exact z'A T (z'a _) ⟨rfl,rfl⟩
 have e3:decide (loc<0)=false:=by simpa using h3
 obtain⟨j,rfl⟩: ∃j:Nat,loc=(j:Int):=⟨loc.toNat,by omega⟩
 by_cases h4:(j:Int)≥(c.mem.length:Int)
 ·have e4:decide ((j:Int)≥(c.mem.length:Int))=true:=by simpa using h4
  have hn:c.mem[j]?=none:=z'L (by omega)
  have hr:w'g c i j=0:=by
   unfold w'g
   rw[show((j:Int)).toNat=j from rfl,hn]
   split<;>simp_all
  rw[hr]
  repeat' first|refine vb rfl rfl rfl rfl ?_|refine vs T rfl fun K hK=>?_;(try simp (disch:=omega) only[go_sem,Nat.reduceBEq,Nat.reduceAdd,e1,e2,e3,e4,y'u,z'I]);(refine hK _ _ ?_;clear hK K)|refine st rfl ?_|refine sc rfl ?_|refine nl ?_|refine gs rfl rfl ?_|exact z'A T (z'a _) ⟨rfl,rfl⟩
 have e4:decide ((j:Int)≥(c.mem.length:Int))=false:=by simpa using h4
 obtain⟨b,hb⟩: ∃b,c.bufs[i]?=some b:=⟨_,z'b (by omega)⟩
 obtain⟨n,hn⟩: ∃n,c.mem[j]?=some n:=⟨_,z'b (by omega)⟩
 have rb:(x'6 c.bufs)[i]?=some [buf b]:=by rw[v'y,hb];rfl
 have rn:(iRs c.mem)[j]?=some [iD n]:=by rw[x'7,hn];rfl
 have hbl:=hc b (z'l hb)
 have hil:i<c.bufs.length:=by omega
 have hjl:j<c.mem.length:=by omega
 have hr:w'g c i j=(v'k j b).getD n:=by simp[w'g,hb,hn]
 rw[hr]
 have cl:=Zsh b (by omega) (j:Int)
 cases hl:v'k (j:Int) b with
 |none=>
  rw[hl]at cl
  have cl':Pure Tryz.prog 338 [buf b,iD (j:Int)] (.tup [iD 0,bD false]):=cl
  repeat' first|refine vb rfl rfl rfl rfl ?_|refine vs T rfl fun K hK=>?_;(try simp (disch:=omega) only[go_sem,Nat.reduceBEq,Nat.reduceAdd,e1,e2,e3,e4,rb,rn,y'u,z'I]);(first|refine hK _ _ ?_;clear hK K|refine⟨?_,hK _ _ ?_⟩<;>clear hK K;focus(try omega)|refine Op1.callp rfl rfl (cl') rfl ?_;refine hK _ _ ?_;clear hK K)|refine st rfl ?_|refine sc rfl ?_|refine nl ?_|refine gs rfl rfl ?_|exact z'A T (z'a _) ⟨rfl,rfl⟩
 |some v=>
  rw[hl]at cl
  have cl':Pure Tryz.prog 338 [buf b,iD (j:Int)] (.tup [iD v,bD true]):=cl
  repeat' first|refine vb rfl rfl rfl rfl ?_|refine vs T rfl fun K hK=>?_;(try simp (disch:=omega) only[go_sem,Nat.reduceBEq,Nat.reduceAdd,e1,e2,e3,e4,rb,y'u,z'I]);(first|refine hK _ _ ?_;clear hK K|refine⟨?_,hK _ _ ?_⟩<;>clear hK K;focus(try omega)|refine Op1.callp rfl rfl (cl') rfl ?_;refine hK _ _ ?_;clear hK K)|refine st rfl ?_|refine sc rfl ?_|refine nl ?_|refine gs rfl rfl ?_|exact z'A T (z'a _) ⟨rfl,rfl⟩
def w't (c:Cf) (m t loc:Int):Bool:=match decide (0≤t),c.bufs[t.toNat]? with
 |true,some b=>(x'V m loc b).2.2
 |_,_=>false
theorem Zhn (c:Cf) (hc:Zpv c) (m t loc:Int):Pure Tryz.prog 345 [.agg (cfC c),iD m,iD t,iD loc] (bD (w't c m t loc)):=by
 refine Fun.of T [.tmp 8] Tryz.func345 rfl Tryz.ntmps345 Tryz.results345 rfl (by kernel_rfl) ?_
 by_cases h1:t<0
 ·have e1:decide (t<0)=true:=by simpa using h1
  have hr:w't c m t loc=false:=by simp[w't,v'j.2 h1]
  rw[hr]
  repeat' first|refine vb rfl rfl rfl rfl ?_|refine vs T rfl fun K hK=>?_;(try simp (disch:=omega) only[go_sem,Nat.reduceBEq,Nat.reduceAdd,e1]);(refine hK _ _ ?_;clear hK K)|refine st rfl ?_|refine sc rfl ?_|refine nl ?_|refine gs rfl rfl ?_|exact z'A T (z'a _) ⟨rfl,rfl⟩
 have e1:decide (t<0)=false:=by simpa using h1
 obtain⟨i,rfl⟩: ∃i:Nat,t=(i:Int):=⟨t.toNat,by omega⟩
 by_cases h2:(i:Int)≥(c.bufs.length:Int)
 ·have e2:decide ((i:Int)≥(c.bufs.length:Int))=true:=by simpa using h2
  have hn:c.bufs[i]?=none:=z'L (by omega)
  have hr:w't c m i loc=false:=by simp[w't,hn]
  rw[hr]
  repeat' first|refine vb rfl rfl rfl rfl ?_|refine vs T rfl fun K hK=>?_;(try simp (disch:=omega) only[go_sem,Nat.reduceBEq,Nat.reduceAdd,e1,e2,y'u]);(refine hK _ _ ?_;clear hK K)|refine st rfl ?_|refine sc rfl ?_|refine nl ?_|refine gs rfl rfl ?_|exact z'A T (z'a _) ⟨rfl,rfl⟩
 have e2:decide ((i:Int)≥(c.bufs.length:Int))=false:=by simpa using h2
 obtain⟨b,hb⟩: ∃b,c.bufs[i]?=some b:=⟨_,z'b (by omega)⟩
 have rb:(x'6 c.bufs)[i]?=some [buf b]:=by rw[v'y,hb];rfl
 have hbl:=hc b (z'l hb)
 have hil:i<c.bufs.length:=by omega
 have hr:w't c m i loc=(x'V m loc b).2.2:=by simp[w't,hb]
 rw[hr]
 have cl:Pure Tryz.prog 346 [buf b,iD m,iD loc] (.tup [buf (x'V m loc b).1,.agg [iD (x'V m loc b).2.1.1,iD (x'V m loc b).2.1.2],bD (x'V m loc b).2.2]):=Zpg b (by omega) m loc
 repeat' first|refine vb rfl rfl rfl rfl ?_|refine vs T rfl fun K hK=>?_;(try simp (disch:=omega) only[go_sem,Nat.reduceBEq,Nat.reduceAdd,Nat.reduceLeDiff,e1,e2,rb,y'u]);(first|refine hK _ _ ?_;clear hK K|intro bq hbq;(try simp only[HB]at hbq);refine hK _ _ ?_;clear hK K|refine⟨?_,hK _ _ ?_⟩<;>clear hK K;focus(try omega)|refine Op1.callp rfl rfl (cl) rfl ?_;refine hK _ _ ?_;clear hK K)|refine st rfl ?_|refine sc rfl ?_|refine nl ?_|refine gs rfl rfl ?_|exact z'A T (z'a _) ⟨rfl,rfl⟩
theorem ZmL (l:List Int) (hl:l.length≤1000000):Fun Tryz.prog 145 [y'c l] [] false (fun d H'=> ∃g,d= .gs g l.length∧gOk g l.length∧H'=shp g 3 1 (iRs l).flatten []):=by
 refine Fun.of T [.tmp 2] Tryz.func145 rfl Tryz.ntmps145 Tryz.results145 rfl (by kernel_rfl) ?_
 repeat' first|refine vs T rfl fun K hK=>?_;(try simp (disch:=omega) only[go_sem,Nat.reduceBEq,z'I]);(first|refine hK _ _ ?_;clear hK K|refine⟨_,_,_,_,(by repeat (exact Sp.nil)),?_,(by exact⟨rfl,rfl⟩),⟨by decide,?_⟩,fun g' hg'=>hK _ _ ?_⟩<;>clear hK K)|refine st rfl ?_|refine nl ?_
 ·rfl
 ·omega
 ·exact z'A T (z'w _) ⟨g',rfl,by simpa using hg',rfl⟩
theorem Zsw (l:List En) (hl:l.length≤1000000):Fun Tryz.prog 221 [buf l] [] false (fun d H'=> ∃g,d= .gs g l.length∧gOk g l.length∧H'=shp g 201 2 (eRs l).flatten []):=by
 refine Fun.of T [.tmp 2] Tryz.func221 rfl Tryz.ntmps221 Tryz.results221 rfl (by kernel_rfl) ?_
 repeat' first|refine vs T rfl fun K hK=>?_;(try simp (disch:=omega) only[go_sem,Nat.reduceBEq,z'7]);(first|refine hK _ _ ?_;clear hK K|refine⟨_,_,_,_,(by repeat (exact Sp.nil)),?_,(by exact⟨rfl,rfl⟩),?_,fun g' hg'=>hK _ _ ?_⟩<;>clear hK K)|refine st rfl ?_|refine nl ?_
 ·rfl
 ·omega
 ·exact z'A T (z'w _) ⟨g',rfl,by simpa using hg',rfl⟩
theorem ZqO (l:List En) (hl:l.length≤1000000):Pure Tryz.prog 221 [buf l] (buf l):=
 Fun.fz ((Zsw l hl).mono fun d H' ⟨g,h1,h2,h3⟩=>by subst h1;subst h3;exact Zoc h2 (z'7 l) (ZfM l))
theorem ZqP (l:List Int) (hl:l.length≤1000000):Pure Tryz.prog 145 [y'c l] (y'c l):=
 Fun.fz ((ZmL l hl).mono fun d H' ⟨g,h1,h2,h3⟩=>by subst h1;subst h3;exact Zoc h2 (z'I l) (Zf0 l))
def ZaH (m r md:Int):Bool:=decide (1≤m)&&decide (m≤3)&&(decide (1≤r)&&decide (r≤4)&&decide (2≤md)&&decide (md≤16))
def Zdt (m r:Int) (b:List En):Bool:=(decide (m≠1)&&(decide (m=3)||decide ((b.length:Int)≤r)))||decide ((b.length:Int)=0)
def x'm (m r md lc:Int) (b:List En):Bool:=ZaH m r md&&((List.range b.length).all fun i=> !w'e m r md lc b i)&&Zdt m r b
def w'I (u:Un) (c:Cf) (t:Int):Bool:=match decide (0≤t),u.code[t.toNat]?,c.pc[t.toNat]? with
 |true,some r,some p=>(match decide (0≤p),r[p.toNat]? with|true,some x=>x.op == 22|_,_=>false)
 |_,_,_=>false
theorem v'p {α:Type} {l:List α} {i:Nat} {d:α} (h:i<l.length):l[i]?=some (l.getD i d):=by
 rw[z'd,z'b h];rfl
theorem Zsa {α:Type} {l:List α} {i:Nat} {x d:α} (h:l[i]?=some x):l.getD i d=x:=by rw[z'd,h];rfl
theorem ZcW {α:Type} (f:α→List D) (d:α) {e esz eb:Nat} {ea full:Bool} {ez:List Value} {l:List α} {k:IntKind} {n:Int} {K:D→Prop}:
  cIndexAddr (.slice e esz eb ea ez) (.sl full esz (l.map f)) (.is (.int k n)) K=((0≤n∧n<l.length)∧K (.pt (f (l.getD n.toNat d)))):=by
 simp only[cIndexAddr,z'i,z'J,eq_iff_iff]
 constructor
 ·rintro⟨h,r,h1,_,h2⟩
  have hl:n.toNat<l.length:=by omega
  rw[v'p (d:=d) hl]at h1
  cases h1
  exact⟨h,h2⟩
 ·rintro⟨h,h1⟩
  have hl:n.toNat<l.length:=by omega
  exact⟨h,_,by rw[v'p (d:=d) hl];rfl,trivial,h1⟩
theorem Zf2 {e eb:Nat} {ea full:Bool} {ez:List Value} {l:List Int} {k:IntKind} {n:Int} {K:D→Prop}:
  cIndexAddr (.slice e 1 eb ea ez) (.sl full 1 (iRs l)) (.is (.int k n)) K=((0≤n∧n<l.length)∧K (.pt [iD (l.getD n.toNat 0)])):=ZcW (fun n=>[iD n]) 0
def edR (x:Ed):List D:=[iD x.1,iD x.2.1,iD x.2.2]
def Zbd (l:List Ed):List (List D):=l.map edR
abbrev ZbI (l:List Ed):D:= .sl false 3 (Zbd l)
theorem ZcN (l:List Ed):(Zbd l).length=l.length:=z'i ..
theorem ZoW {e eb:Nat} {ea full:Bool} {ez:List Value} {l:List Ed} {k:IntKind} {n:Int} {K:D→Prop}:
  cIndexAddr (.slice e 3 eb ea ez) (.sl full 3 (Zbd l)) (.is (.int k n)) K=((0≤n∧n<l.length)∧K (.pt (edR (l.getD n.toNat (0,0,0))))):=ZcW edR (0,0,0)
abbrev csC (g:Cs):List D:=[y'c g.st,y'c g.ag,y'c g.to]
structure Gr (g:Cs):Prop where
 one:1≤g.st.length
 st0:g.st.getD 0 0=0
 stn:g.st.getD (g.st.length-1) 0=g.to.length
 ag:g.ag.length=g.to.length
 up: ∀i,i<g.st.length-1→g.st.getD i 0≤g.st.getD (i+1) 0
 to: ∀i,i<g.to.length→0≤g.to.getD i 0∧g.to.getD i 0<(g.st.length-1:Nat)∧0≤g.ag.getD i 0
theorem Zme (l:List Ed):(Zbd l).flatten.length=l.length*3:=by
 induction l with
 |nil=>rfl
 |cons c l ih=>simp only[Zbd,z'm,z'R,z'h,z'u]at ih⊢;rw[ih];simp only[edR,z'u,z'2];omega
theorem Zj2 (l:List Ed) (x:Ed):(Zbd (l++[x])).flatten=(Zbd l).flatten++edR x:=by simp[Zbd]
theorem ZpY (l:List Ed): ∀r,r∈Zbd l→r.length=3:=by
 intro r hr
 obtain⟨x,_,rfl⟩:=z'p.1 hr
 rfl
theorem Gr.mono {g:Cs} (G:Gr g): ∀{d i:Nat},i+d≤g.st.length-1→g.st.getD i 0≤g.st.getD (i+d) 0
 |0,i,_=>Int.le_refl _
 |d+1,i,h=>Int.le_trans (G.mono (d:=d) (by omega)) (G.up (i+d) (by omega))
theorem Zp2 {α:Type} {a b:List α} {d:α} (hl:a.length=b.length) (h: ∀i,i<a.length→a.getD i d=b.getD i d):a=b:=by
 apply y'U
 intro i
 rcases z'j i a.length with hi|hi
 ·rw[v'p (d:=d) hi,v'p (d:=d) (by omega),h i hi]
 ·rw[z'L hi,z'L (by omega)]
theorem Zuq {α:Type} {a b:List α} {d:α} {k:Nat} (hs: ∀i,i<k→a.getD i d=b.getD i d) (h:a.getD k d=b.getD k d): ∀i,i<k+1→a.getD i d=b.getD i d:=fun i hi=>by
 rcases z'j i k with h'|h'
 ·exact hs i h'
 ·obtain rfl:i=k:=by omega
  exact h
theorem w'R {α:Type} {l:List α} {i:Nat} {d:α} (h:i<l.length):l.getD i d∈l:=z'l (v'p h)
theorem ZhZ (n:Nat):((n:Int)-1).toNat=n-1:=by omega
end Go.Proofs.YthlkpnjjkgmlkaaGreat
