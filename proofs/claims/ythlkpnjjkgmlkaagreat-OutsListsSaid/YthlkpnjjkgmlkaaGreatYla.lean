/- Contracts: what operators do; the parts of instructions. No condition. -/
import Derived.Test.YthlkpnjjkgmlkaaGreatXe
import Derived.Test.YthlkpnjjkgmlkaaGreatWa
namespace Go.Proofs.YthlkpnjjkgmlkaaGreat
set_option maxHeartbeats 16000000
set_option linter.unusedSimpArgs false
set_option linter.unusedVariables false
set_option maxRecDepth 20000
open Go Go.Proofs Go.Vc
attribute [local irreducible] x'c VCg VCw VCx
def tI (b:Bool):Int:=match b with|true=>1|false=>0
def w'V (op a b md:Int):Int:=
 if op=6 then(a+b).tmod md else if op=7 then(a-b+md).tmod md else if op=8 then(a*b).tmod md else if op=9 then tI (a == b)else if op=10 then tI (a != b)
 else if op=11 then tI (decide (a<b))else if op=12 then tI (decide (a≤b))else if op=13 then tI ((a != 0)&&(b != 0))else tI ((a != 0)||(b != 0))
def Zef (x:Ins):Bool:=decide (x.op=22)&&(decide (x.reg=0)&&(decide (x.loc=0)&&(decide (x.e.length=0)&&(decide (x.f.length=0)&&(!x.ne&&decide (x.to=0))))))
def x'b (op:Int) (n:Int):Option Int:=
 if 1≤op∧op≤4 then some (n+1)else if op=5∧1≤n then some n else if (6≤op∧op≤14)∧2≤n then some (n-1)else none
def v'E:List Opc→Int→Int→Option (Int×Int)
 |[],n,most=>some (n,most)
 |x::r,n,most=>match x'b x.1 n with
  |some n'=>v'E r n' (max most n')
  |none=>none
theorem ZnQ {P:Program} {o:Oper} {E:Operand→D} {H:Heap} {K:D→Heap→Prop} {x y:Operand} {ts:Array TypeId} {k:IntKind} {a b:Int} (ho:o.op= .call ⟨.builtin .max, #[x,y],ts⟩) (ha:E x= .is (.int k a)) (hb:E y= .is (.int k b)) (hk:K (.is (.int k (max a b))) H):Op1 P o E H K:=by
 refine Op1.value (d:= .is (.int k (max a b))) (fun w L0 ε hi hx=>?_) hk
 have h1:=hx x (by simp[ho,Op.operands,Call.operands])
 have h2:=hx y (by simp[ho,Op.operands,Call.operands])
 rw[ha]at h1;rw[hb]at h2
 have h1':ε x= .int k a:=h1
 have h2':ε y= .int k b:=h2
 refine⟨.int k (max a b),?_,rfl⟩
 simp only[execOp,ho,resolve,invoke,builtin]
 simp[go_sem,h1',h2',Builtin.max_,Builtin.max2]
 split<;>omega
theorem ZhM (x:Opc) (r:List Opc) (n most:Int):v'E (x::r) n most=(match x'b x.1 n with|some n'=>v'E r n' (max most n')|none=>none):=rfl
def Zue (o:Option (Int×Int)):D:=match o with|some p=> .tup [iD p.1,iD p.2]|none=> .tup [iD (-1),iD (-1)]
theorem ZeY {α:Type} {l:List α} {p:α→Bool} (h: ∀(i:Nat) (x:α),i<l.length→l[i]?=some x→p x=true):l.all p=true:=by
 rw[z'o]
 intro x hx
 obtain⟨i,hi⟩:=y'W hx
 exact h i x (z'g.1 hi).1 hi
theorem ZdM {α:Type} {l:List α} {p:α→Bool} {i:Nat} {x:α} (h:l[i]?=some x) (hp:p x=false):l.all p=false:=by
 rw[v'c]
 exact⟨x,z'l h,by simp[hp]⟩
theorem Zd4 {α:Type} {l:List α} {p:α→Bool} {k:Nat} {x:α} (hs: ∀(i:Nat) (y:α),i<k→l[i]?=some y→p y=true) (hx:l[k]?=some x) (hp:p x=true): ∀(i:Nat) (y:α),i<k+1→l[i]?=some y→p y=true:=fun i y hi hy=>by
 rcases z'j i k with h|h
 ·exact hs i y h hy
 ·obtain rfl:i=k:=by omega
  rw[hx]at hy;cases hy;exact hp
def Zfs (c:Cf):Bool:=c.bufs.all fun b=>decide (b.length=0)
def ZhN (c:Cf):Bool:=(decide (c.pc.length≤8)&&decide (c.regs.length≤8)&&decide (c.bufs.length≤8)&&decide (c.mem.length≤20))&&((c.regs.all fun r=>decide (r.length≤20))&&(c.bufs.all fun b=>decide (b.length≤60)))
def x'o (rs:List Int) (own locs:Int) (x:Opc):Bool:=
 if x.1=1 then inB x.2.1 10000 else if x.1=2 then inB x.2.1 own else if x.1=3 then inB x.2.1 locs
 else if x.1=4 then inB x.2.2 rs.length&&inB x.2.1 ((rs[x.2.2.toNat]?).getD 0)else true
def oneL (o:Option (Int×Int)):Bool:=match o with|some p=>p.1 == 1|none=>false
def v'V (l:List Opc) (rs:List Int) (own locs:Int):Bool:=(l.all (x'o rs own locs))&&oneL (v'E l 0 0)
structure Nd where
 r:Bool
 l:Bool
 e:Bool
 f:Bool
 n:Bool
 t:Bool
def ndF (op:Int):Option Nd:=
 if op=2 then some ⟨true,false,true,false,false,false⟩else
 if op=3 then some ⟨true,true,false,false,false,false⟩else
 if op=4 then some ⟨false,true,true,false,false,false⟩else
 if op=5 then some ⟨true,true,true,true,false,false⟩else
 if op=6 then some ⟨true,true,true,false,false,false⟩else
 if op=7 then some ⟨true,true,true,false,false,false⟩else
 if op=8 then some ⟨false,false,false,false,false,false⟩else
 if op=9 then some ⟨false,true,true,false,true,false⟩else
 if op=20 then some ⟨false,false,false,false,false,true⟩else
 if op=21 then some ⟨false,false,true,false,false,true⟩else
 none
def y'5 (has:Bool) (n m:Int):Bool:=match has with|true=>inB n m|false=>n == 0
def ZbV (has:Bool) (l:List Opc) (regs:Int):Bool:=match has with|true=>v'V l [] regs 0|false=>decide (l.length=0)
def v'h (x:Ins) (regs locs many:Int):Bool:=match ndF x.op with
 |none=>false
 |some d=>y'5 d.r x.reg regs&&y'5 d.l x.loc locs&&y'5 d.t x.to many&&ZbV d.e x.e regs&&ZbV d.f x.f regs&&(d.n|| !x.ne)
def ZoZ (x:Ins):Bool:=decide (x.e.length≤300)&&decide (x.f.length≤300)
def Zo0 (r:List Ins):Bool:=decide (r.length≤200)&&r.all ZoZ
def Zo1 (u:Un):Bool:=(decide (u.init.length≤20)&&decide (u.regs.length≤20)&&decide (u.code.length≤8))&&u.code.all Zo0
structure OkC (c:Cf):Prop where
 pc:c.pc.length≤1000
 mem:c.mem.length≤1000
 regs:c.regs.length≤1000
 row: ∀r,r∈c.regs→r.length≤1000
 bufs:c.bufs.length≤1000
 buf: ∀b,b∈c.bufs→b.length≤1000
structure OkU (u:Un):Prop where
 ini:u.init.length≤1000
 reg:u.regs.length≤1000
 cod:u.code.length≤1000
 row: ∀r,r∈u.code→r.length≤100000
 ins: ∀r,r∈u.code→ ∀x,x∈r→x.e.length≤1000∧x.f.length≤1000
instance:Inhabited Ins:=⟨⟨0,0,0,[],[],false,0⟩⟩
def Zcr (regs locs:Int) (r:List Ins):Bool:=
 (decide (0≤regs)&&decide (regs≤6)&&decide (1≤r.length)&&decide (r.length≤1000)&&Zef (r.getD (r.length-1) default))&&((List.range (r.length-1)).all fun i=>v'h (r.getD i default) regs locs r.length)
def w'Y (u:Un):Bool:=decide (2≤u.md)&&decide (u.md≤16)&&y'E u.init u.md&&decide (u.init.length≤6)&&decide (1≤u.regs.length)&&decide (u.regs.length≤4)&&decide (u.code.length=u.regs.length)
def y'G (u:Un):Bool:=w'Y u&&((List.range u.regs.length).all fun t=>Zcr (u.regs.getD t 0) u.init.length (u.code.getD t []))
theorem Zfu {n:Nat} {p:Nat→Bool} (h: ∀i,i<n→p i=true):(List.range n).all p=true:=by
 rw[z'o]
 intro x hx
 exact h x (z'Q.1 hx)
theorem Zfv {n i:Nat} {p:Nat→Bool} (hi:i<n) (h:p i=false):(List.range n).all p=false:=by
 rw[v'c]
 exact⟨i,z'Q.2 hi,by simp[h]⟩
theorem Zp0 (u:Un) (c:Cf) (t:Int):Pure Tryz.prog 132 [.agg (unC u),.agg (cfC c),iD t] (bD (w'I u c t)):=by
 refine Fun.of T [.tmp 6] Tryz.func132 rfl Tryz.ntmps132 Tryz.results132 rfl (by kernel_rfl) ?_
 by_cases h1:t<0
 ·have e1:decide (t<0)=true:=by simpa using h1
  rw[show w'I u c t=false by simp[w'I,v'j.2 h1]]
  repeat' first|refine vb rfl rfl rfl rfl ?_|refine vs T rfl fun K hK=>?_;(try simp (disch:=omega) only[go_sem,Nat.reduceBEq,Nat.reduceAdd,e1]);(refine hK _ _ ?_;clear hK K)|refine st rfl ?_|refine sc rfl ?_|refine nl ?_|refine gs rfl rfl ?_|exact z'A T (z'a _) ⟨rfl,rfl⟩
 have e1:decide (t<0)=false:=by simpa using h1
 obtain⟨i,rfl⟩: ∃i:Nat,t=(i:Int):=⟨t.toNat,by omega⟩
 by_cases h2:(i:Int)≥(u.code.length:Int)
 ·have e2:decide ((i:Int)≥(u.code.length:Int))=true:=by simpa using h2
  have hn:u.code[i]?=none:=z'L (by omega)
  rw[show w'I u c i=false by simp[w'I,hn]]
  repeat' first|refine vb rfl rfl rfl rfl ?_|refine vs T rfl fun K hK=>?_;(try simp (disch:=omega) only[go_sem,Nat.reduceBEq,Nat.reduceAdd,e1,e2,x'r]);(refine hK _ _ ?_;clear hK K)|refine st rfl ?_|refine sc rfl ?_|refine nl ?_|refine gs rfl rfl ?_|exact z'A T (z'a _) ⟨rfl,rfl⟩
 have e2:decide ((i:Int)≥(u.code.length:Int))=false:=by simpa using h2
 by_cases h3:(i:Int)≥(c.pc.length:Int)
 ·have e3:decide ((i:Int)≥(c.pc.length:Int))=true:=by simpa using h3
  have hn:c.pc[i]?=none:=z'L (by omega)
  rw[show w'I u c i=false by simp[w'I,hn]]
  repeat' first|refine vb rfl rfl rfl rfl ?_|refine vs T rfl fun K hK=>?_;(try simp (disch:=omega) only[go_sem,Nat.reduceBEq,Nat.reduceAdd,e1,e2,e3,x'r,z'I]);(refine hK _ _ ?_;clear hK K)|refine st rfl ?_|refine sc rfl ?_|refine nl ?_|refine gs rfl rfl ?_|exact z'A T (z'a _) ⟨rfl,rfl⟩
 have e3:decide ((i:Int)≥(c.pc.length:Int))=false:=by simpa using h3
 obtain⟨r,hr⟩: ∃r,u.code[i]?=some r:=⟨_,z'b (by omega)⟩
 obtain⟨p,hp⟩: ∃p,c.pc[i]?=some p:=⟨_,z'b (by omega)⟩
 have rr:(Zax u.code)[i]?=some [.sl false 7 (w'o r)]:=by rw[Zb3,hr];rfl
 have rp:(iRs c.pc)[i]?=some [iD p]:=by rw[x'7,hp];rfl
 have l1:i<u.code.length:=by omega
 have l2:i<c.pc.length:=by omega
 by_cases h4:p<0
 ·have e4:decide (p≥0)=false:=by simp;omega
  rw[show w'I u c i=false by simp[w'I,hr,hp,v'j.2 h4]]
  repeat' first|refine vb rfl rfl rfl rfl ?_|refine vs T rfl fun K hK=>?_;(try simp (disch:=omega) only[go_sem,Nat.reduceBEq,Nat.reduceAdd,e1,e2,e3,e4,rp,x'r,z'I]);(first|refine hK _ _ ?_;clear hK K|refine⟨?_,hK _ _ ?_⟩<;>clear hK K;focus(try omega))|refine st rfl ?_|refine sc rfl ?_|refine nl ?_|refine gs rfl rfl ?_|exact z'A T (z'a _) ⟨rfl,rfl⟩
 have e4:decide (p≥0)=true:=by simp;omega
 obtain⟨q,rfl⟩: ∃q:Nat,p=(q:Int):=⟨p.toNat,by omega⟩
 by_cases h5:(q:Int)<(r.length:Int)
 case neg=>
  have e5:decide ((q:Int)<(r.length:Int))=false:=by simpa using h5
  have hn:r[q]?=none:=z'L (by omega)
  rw[show w'I u c i=false by simp[w'I,hr,hp,hn]]
  repeat' first|refine vb rfl rfl rfl rfl ?_|refine vs T rfl fun K hK=>?_;(try simp (disch:=omega) only[go_sem,Nat.reduceBEq,Nat.reduceAdd,e1,e2,e3,e4,e5,rr,rp,x'r,z'I,x'W]);(first|refine hK _ _ ?_;clear hK K|refine⟨?_,hK _ _ ?_⟩<;>clear hK K;focus(try omega))|refine st rfl ?_|refine sc rfl ?_|refine nl ?_|refine gs rfl rfl ?_|exact z'A T (z'a _) ⟨rfl,rfl⟩
 have e5:decide ((q:Int)<(r.length:Int))=true:=by simpa using h5
 obtain⟨x,hx⟩: ∃x,r[q]?=some x:=⟨_,z'b (by omega)⟩
 have rx:(w'o r)[q]?=some [iD x.op,iD x.reg,iD x.loc,y'8 x.e,y'8 x.f,bD x.ne,iD x.to]:=by rw[ZcV,hx];rfl
 have l3:q<r.length:=by omega
 rw[show w'I u c i=(x.op == 22) by simp[w'I,hr,hp,hx]]
 repeat' first|refine vb rfl rfl rfl rfl ?_|refine vs T rfl fun K hK=>?_;(try simp (disch:=omega) only[go_sem,Nat.reduceBEq,Nat.reduceAdd,e1,e2,e3,e4,e5,rr,rp,rx,x'r,z'I,x'W]);(first|refine hK _ _ ?_;clear hK K|refine⟨?_,hK _ _ ?_⟩<;>clear hK K;focus(try omega))|refine st rfl ?_|refine sc rfl ?_|refine nl ?_|refine gs rfl rfl ?_|exact z'A T (z'a _) ⟨rfl,rfl⟩
theorem ZqW (c:Cf) (hn:c.bufs.length≤1000000):Pure Tryz.prog 133 [.agg (cfC c)] (bD (Zfs c)):=by
 refine Fun.of T [.tmp 2] Tryz.func133 rfl Tryz.ntmps133 Tryz.results133 rfl (by kernel_rfl) ?_
 repeat' first|refine vb rfl rfl rfl rfl ?_|refine vs T rfl fun K hK=>?_;(try simp (disch:=omega) only[go_sem,Nat.reduceBEq,y'u]);(refine hK _ _ ?_;clear hK K)|refine st rfl ?_|refine nl ?_
 refine VC.loop {k:Nat//k≤c.bufs.length∧ ∀(i:Nat) (y:List En),i<k→c.bufs[i]?=some y→decide (y.length=0)=true} (fun p=>⟨y'd [(1,.pt (cfC c)),(6,.sl false 1 (x'6 c.bufs)),(7,iD (c.bufs.length:Nat)),(8,iD (p.1:Nat))],[]⟩) (fun p=>c.bufs.length-p.1) ⟨0,by omega,fun i y hi=>by omega⟩ ?_ ?_
 ·refine Weak.sub ?_
  simp[sub,upd]
 ·rintro⟨k,hk,hs⟩
  dsimp only
  rcases z'j k c.bufs.length with hlt|hge
  ·have hd:decide ((k:Int)<(c.bufs.length:Int))=true:=by simp;omega
   have hw:IntKind.i64.wrap ((k:Int)+1)=((k+1:Nat):Int):=by rw[w64 (by omega)];omega
   obtain⟨b,hb⟩: ∃b,c.bufs[k]?=some b:=⟨_,z'b hlt⟩
   have rb:(x'6 c.bufs)[k]?=some [buf b]:=by rw[v'y,hb];rfl
   by_cases h0:b.length=0
   ·have e0:decide ((b.length:Int)>0)=false:=by rw[h0];rfl
    repeat' first|refine vs T rfl fun K hK=>?_;(try simp (disch:=omega) only[go_sem,Nat.reduceBEq,hd,hw,rb,e0,y'u,z'7]);(first|refine hK _ _ ?_;clear hK K|refine⟨?_,hK _ _ ?_⟩<;>clear hK K;focus(try omega))|refine st rfl ?_|refine sc rfl ?_|refine nl ?_
    refine⟨⟨k+1,by omega,Zd4 hs hb (by simpa using h0)⟩,Weak.sub ?_,by simp only[];omega⟩
    simp[sub,upd]
   ·have e0:decide ((b.length:Int)>0)=true:=by simp;omega
    rw[show Zfs c=false from ZdM hb (by simpa using h0)]
    repeat' first|refine vs T rfl fun K hK=>?_;(try simp (disch:=omega) only[go_sem,Nat.reduceBEq,hd,rb,e0,y'u,z'7]);(first|refine hK _ _ ?_;clear hK K|refine⟨?_,hK _ _ ?_⟩<;>clear hK K;focus(try omega))|refine st rfl ?_|refine sc rfl ?_|refine nl ?_|exact z'A T (z'a _) ⟨rfl,rfl⟩
  ·have hd:decide ((k:Int)<(c.bufs.length:Int))=false:=by simp;omega
   rw[show Zfs c=true from ZeY fun i x hi hx=>hs i x (by omega) hx]
   repeat' first|refine vs T rfl fun K hK=>?_;(try simp (disch:=omega) only[go_sem,Nat.reduceBEq,hd]);(refine hK _ _ ?_;clear hK K)|refine st rfl ?_|refine sc rfl ?_|refine nl ?_|exact z'A T (z'a _) ⟨rfl,rfl⟩
def Zbi (u:Un) (c:Cf):Bool:=((List.range u.code.length).all fun t=>w'I u c (t:Nat))&&Zfs c
theorem ZnR {n:Nat} {p:Nat→Bool} (h: ∀i,i<n→p i=true):(List.range n).all p=true:=by
 rw[z'o]
 exact fun x hx=>h x (z'Q.1 hx)
theorem ZnS {n i:Nat} {p:Nat→Bool} (hi:i<n) (h:p i=false):(List.range n).all p=false:=by
 rw[v'c]
 exact⟨i,z'Q.2 hi,by simp[h]⟩
theorem Zp3 (u:Un) (c:Cf) (hu:u.code.length≤1000000) (hn:c.bufs.length≤1000000):Pure Tryz.prog 72 [.agg (unC u),.agg (cfC c)] (bD (Zbi u c)):=by
 have cq:=ZqW c hn
 refine Fun.of T [.tmp 4] Tryz.func72 rfl Tryz.ntmps72 Tryz.results72 rfl (by kernel_rfl) ?_
 repeat' first|refine vb rfl rfl rfl rfl ?_|refine vs T rfl fun K hK=>?_;(try simp (disch:=omega) only[go_sem,Nat.reduceBEq,x'r]);(refine hK _ _ ?_;clear hK K)|refine st rfl ?_|refine nl ?_
 refine VC.loop {k:Nat//k≤u.code.length∧ ∀i,i<k→w'I u c (i:Nat)=true} (fun p=>⟨y'd [(2,.pt (unC u)),(3,.pt (cfC c)),(8,iD (u.code.length:Nat)),(9,iD (p.1:Nat))],[]⟩) (fun p=>u.code.length-p.1) ⟨0,by omega,fun i hi=>by omega⟩ ?_ ?_
 ·refine Weak.sub ?_
  simp[sub,upd]
 rintro⟨k,hk,hs⟩
 dsimp only
 rcases z'j k u.code.length with hlt|hge
 ·have hd:decide ((k:Int)<(u.code.length:Int))=true:=by simp;omega
  have hw:IntKind.i64.wrap ((k:Int)+1)=((k+1:Nat):Int):=by rw[w64 (by omega)];omega
  have ce:=Zp0 u c (k:Nat)
  cases hE:w'I u c (k:Nat)with
  |false=>
   rw[hE]at ce
   rw[show Zbi u c=false by rw[Zbi,ZnS hlt hE];rfl]
   repeat' first|refine vs T rfl fun K hK=>?_;(try simp (disch:=omega) only[go_sem,Nat.reduceBEq,Nat.reduceAdd,Nat.reduceLeDiff,hd,z'O]);(first|refine hK _ _ ?_;clear hK K|refine Op1.callp rfl rfl (ce) rfl ?_;refine hK _ _ ?_;clear hK K)|refine st rfl ?_|refine sc rfl ?_|refine nl ?_|exact z'A T (z'a _) ⟨rfl,rfl⟩
  |true=>
   rw[hE]at ce
   repeat' first|refine vs T rfl fun K hK=>?_;(try simp (disch:=omega) only[go_sem,Nat.reduceBEq,Nat.reduceAdd,Nat.reduceLeDiff,hd,hw,z'E]);(first|refine hK _ _ ?_;clear hK K|refine Op1.callp rfl rfl (ce) rfl ?_;refine hK _ _ ?_;clear hK K)|refine st rfl ?_|refine sc rfl ?_|refine nl ?_
   refine⟨⟨k+1,by omega,fun i hi=>?_⟩,Weak.sub ?_,by simp only[];omega⟩
   ·rcases z'j i k with h|h
    ·exact hs i h
    ·obtain rfl:i=k:=by omega
     exact hE
   ·simp[sub,upd]
 have hd:decide ((k:Int)<(u.code.length:Int))=false:=by simp;omega
 rw[show Zbi u c=Zfs c by rw[Zbi,ZnR fun i hi=>hs i (by omega),x'l]]
 repeat' first|refine vs T rfl fun K hK=>?_;(try simp (disch:=omega) only[go_sem,Nat.reduceBEq,Nat.reduceAdd,Nat.reduceLeDiff,hd]);(first|refine hK _ _ ?_;clear hK K|refine Op1.callp rfl rfl (cq) rfl ?_;refine hK _ _ ?_;clear hK K)|refine st rfl ?_|refine sc rfl ?_|refine nl ?_|exact z'A T (z'a _) ⟨rfl,rfl⟩
end Go.Proofs.YthlkpnjjkgmlkaaGreat
