/- Units and configurations; what a thread reads. No condition. -/
import Derived.Test.YtomcmfbpmkklmaaGreatXc
namespace Go.Proofs.YtomcmfbpmkklmaaGreat
set_option maxHeartbeats 16000000
set_option linter.unusedSimpArgs false
set_option linter.unusedVariables false
set_option maxRecDepth 20000
open Go Go.Proofs Go.Vc
attribute [local irreducible] y'0 VCg VCw VCx
abbrev Opc:=Int×Int×Int
def opR (x:Opc):List D:=[iD x.1,iD x.2.1,iD x.2.2]
def ZdW (l:List Opc):List (List D):=l.map opR
abbrev z'R (l:List Opc):D:= .sl false 3 (ZdW l)
structure Ins where
 op:Int
 reg:Int
 loc:Int
 e:List Opc
 f:List Opc
 ne:Bool
 to:Int
def v'B (x:Ins):List D:=[iD x.op,iD x.reg,iD x.loc,z'R x.e,z'R x.f,bD x.ne,iD x.to]
def y'J (l:List Ins):List (List D):=l.map v'B
def x'6 (c:List (List Ins)):List (List D):=c.map fun l=>[.sl false 7 (y'J l)]
structure Un where
 md:Int
 init:List Int
 regs:List Int
 code:List (List Ins)
abbrev unC (u:Un):List D:=[iD u.md,z'S u.init,z'S u.regs,.sl false 1 (x'6 u.code)]
def x'j (l:List (List Int)):List (List D):=l.map fun r=>[z'S r]
def y'U (l:List (List En)):List (List D):=l.map fun b=>[buf b]
structure Cf where
 pc:List Int
 regs:List (List Int)
 mem:List Int
 bufs:List (List En)
abbrev cfC (c:Cf):List D:=[z'S c.pc,.sl false 1 (x'j c.regs),z'S c.mem,.sl false 1 (y'U c.bufs)]
theorem z'O (l:List Opc):(ZdW l).length=l.length:=z'p ..
theorem ZcL (l:List Opc) (i:Nat):(ZdW l)[i]?=(l[i]?).map opR:=z'4 ..
theorem z'U (l:List Ins):(y'J l).length=l.length:=z'p ..
theorem x'V (l:List Ins) (i:Nat):(y'J l)[i]?=(l[i]?).map v'B:=z'4 ..
theorem z'H (l:List (List Ins)):(x'6 l).length=l.length:=z'p ..
theorem x'C (l:List (List Ins)) (i:Nat):(x'6 l)[i]?=(l[i]?).map fun l=>[.sl false 7 (y'J l)]:=z'4 ..
theorem z'W (l:List (List Int)):(x'j l).length=l.length:=z'p ..
theorem w'j (l:List (List Int)) (i:Nat):(x'j l)[i]?=(l[i]?).map fun r=>[z'S r]:=z'4 ..
theorem z'J (l:List (List En)):(y'U l).length=l.length:=z'p ..
theorem y'P (l:List (List En)) (i:Nat):(y'U l)[i]?=(l[i]?).map fun b=>[buf b]:=z'4 ..
def Zgu (c:Cf):Prop:= ∀b,b∈c.bufs→b.length≤1000
def x'x (c:Cf) (t loc:Int):Int:=match decide (0≤t),c.bufs[t.toNat]?,decide (0≤loc),c.mem[loc.toNat]? with
 |true,some b,true,some n=>(v't loc b).getD n
 |_,_,_,_=>0
theorem ZiQ (c:Cf) (hc:Zgu c) (t loc:Int):Pure Tryz.prog 225 [.agg (cfC c),iD t,iD loc] (iD (x'x c t loc)):=by
 refine Fun.of T [.tmp 6] Tryz.func225 rfl Tryz.ntmps225 Tryz.results225 rfl (by kernel_rfl) ?_
 by_cases h1:t<0
 ·have e1:decide (t<0)=true:=by simpa using h1
  have hr:x'x c t loc=0:=by simp[x'x,x'd.2 h1]
  rw[hr]
  repeat' first|refine vb rfl rfl rfl rfl ?_|refine vs T rfl fun K hK=>?_;(try simp (disch:=omega) only[go_sem,Nat.reduceBEq,Nat.reduceAdd,e1]);(refine hK _ _ ?_;clear hK K)|refine st rfl ?_|refine sc rfl ?_|refine nl ?_|refine gs rfl rfl ?_|exact z'j T (z'a _) ⟨rfl,rfl⟩
 have e1:decide (t<0)=false:=by simpa using h1
 obtain⟨i,rfl⟩: ∃i:Nat,t=(i:Int):=⟨t.toNat,by omega⟩
 by_cases h2:(i:Int)≥(c.bufs.length:Int)
 ·have e2:decide ((i:Int)≥(c.bufs.length:Int))=true:=by simpa using h2
  have hn:c.bufs[i]?=none:=z'x (by omega)
  have hr:x'x c i loc=0:=by simp[x'x,hn]
  rw[hr]
  repeat' first|refine vb rfl rfl rfl rfl ?_|refine vs T rfl fun K hK=>?_;(try simp (disch:=omega) only[go_sem,Nat.reduceBEq,Nat.reduceAdd,e1,e2,z'J]);(refine hK _ _ ?_;clear hK K)|refine st rfl ?_|refine sc rfl ?_|refine nl ?_|refine gs rfl rfl ?_|exact z'j T (z'a _) ⟨rfl,rfl⟩
 have e2:decide ((i:Int)≥(c.bufs.length:Int))=false:=by simpa using h2
 by_cases h3:loc<0
 ·have e3:decide (loc<0)=true:=by simpa using h3
  have hr:x'x c i loc=0:=by
   unfold x'x
   rw[decide_eq_false (x'd.2 h3)]
   split<;>simp_all
  rw[hr]
  repeat' first|refine vb rfl rfl rfl rfl ?_|refine vs T rfl fun K hK=>?_;(try simp (disch:=omega) only[go_sem,Nat.reduceBEq,Nat.reduceAdd,e1,e2,e3,z'J]);(refine hK _ _ ?_;clear hK K)|refine st rfl ?_|refine sc rfl ?_|refine nl ?_|refine gs rfl rfl ?_|exact z'j T (z'a _) ⟨rfl,rfl⟩
 have e3:decide (loc<0)=false:=by simpa using h3
 obtain⟨j,rfl⟩: ∃j:Nat,loc=(j:Int):=⟨loc.toNat,by omega⟩
 by_cases h4:(j:Int)≥(c.mem.length:Int)
 ·have e4:decide ((j:Int)≥(c.mem.length:Int))=true:=by simpa using h4
  have hn:c.mem[j]?=none:=z'x (by omega)
  have hr:x'x c i j=0:=by
   unfold x'x
   rw[show((j:Int)).toNat=j from rfl,hn]
   split<;>simp_all
  rw[hr]
  repeat' first|refine vb rfl rfl rfl rfl ?_|refine vs T rfl fun K hK=>?_;(try simp (disch:=omega) only[go_sem,Nat.reduceBEq,Nat.reduceAdd,e1,e2,e3,e4,z'J,z'l]);(refine hK _ _ ?_;clear hK K)|refine st rfl ?_|refine sc rfl ?_|refine nl ?_|refine gs rfl rfl ?_|exact z'j T (z'a _) ⟨rfl,rfl⟩
 have e4:decide ((j:Int)≥(c.mem.length:Int))=false:=by simpa using h4
 obtain⟨b,hb⟩: ∃b,c.bufs[i]?=some b:=⟨_,z'b (by omega)⟩
 obtain⟨n,hn⟩: ∃n,c.mem[j]?=some n:=⟨_,z'b (by omega)⟩
 have rb:(y'U c.bufs)[i]?=some [buf b]:=by rw[y'P,hb];rfl
 have rn:(iRs c.mem)[j]?=some [iD n]:=by rw[y'y,hn];rfl
 have hbl:=hc b (z'f hb)
 have hil:i<c.bufs.length:=by omega
 have hjl:j<c.mem.length:=by omega
 have hr:x'x c i j=(v't j b).getD n:=by simp[x'x,hb,hn]
 rw[hr]
 have cl:=ZoE b (by omega) (j:Int)
 cases hl:v't (j:Int) b with
 |none=>
  rw[hl]at cl
  have cl':Pure Tryz.prog 231 [buf b,iD (j:Int)] (.tup [iD 0,bD false]):=cl
  repeat' first|refine vb rfl rfl rfl rfl ?_|refine vs T rfl fun K hK=>?_;(try simp (disch:=omega) only[go_sem,Nat.reduceBEq,Nat.reduceAdd,e1,e2,e3,e4,rb,rn,z'J,z'l]);(first|refine hK _ _ ?_;clear hK K|refine⟨?_,hK _ _ ?_⟩<;>clear hK K;focus(try omega)|refine Op1.callp rfl rfl (cl') rfl ?_;refine hK _ _ ?_;clear hK K)|refine st rfl ?_|refine sc rfl ?_|refine nl ?_|refine gs rfl rfl ?_|exact z'j T (z'a _) ⟨rfl,rfl⟩
 |some v=>
  rw[hl]at cl
  have cl':Pure Tryz.prog 231 [buf b,iD (j:Int)] (.tup [iD v,bD true]):=cl
  repeat' first|refine vb rfl rfl rfl rfl ?_|refine vs T rfl fun K hK=>?_;(try simp (disch:=omega) only[go_sem,Nat.reduceBEq,Nat.reduceAdd,e1,e2,e3,e4,rb,z'J,z'l]);(first|refine hK _ _ ?_;clear hK K|refine⟨?_,hK _ _ ?_⟩<;>clear hK K;focus(try omega)|refine Op1.callp rfl rfl (cl') rfl ?_;refine hK _ _ ?_;clear hK K)|refine st rfl ?_|refine sc rfl ?_|refine nl ?_|refine gs rfl rfl ?_|exact z'j T (z'a _) ⟨rfl,rfl⟩
theorem Zhr (c:Cf) (hc:Zgu c) (t loc:Int):Pure Tryz.prog 139 [.agg (cfC c),iD t,iD loc] (iD (x'x c t loc)):=by
 refine Fun.of T [.tmp 6] Tryz.func139 rfl Tryz.ntmps139 Tryz.results139 rfl (by kernel_rfl) ?_
 by_cases h1:t<0
 ·have e1:decide (t<0)=true:=by simpa using h1
  have hr:x'x c t loc=0:=by simp[x'x,x'd.2 h1]
  rw[hr]
  repeat' first|refine vb rfl rfl rfl rfl ?_|refine vs T rfl fun K hK=>?_;(try simp (disch:=omega) only[go_sem,Nat.reduceBEq,Nat.reduceAdd,e1]);(refine hK _ _ ?_;clear hK K)|refine st rfl ?_|refine sc rfl ?_|refine nl ?_|refine gs rfl rfl ?_|exact z'j T (z'a _) ⟨rfl,rfl⟩
 have e1:decide (t<0)=false:=by simpa using h1
 obtain⟨i,rfl⟩: ∃i:Nat,t=(i:Int):=⟨t.toNat,by omega⟩
 by_cases h2:(i:Int)≥(c.bufs.length:Int)
 ·have e2:decide ((i:Int)≥(c.bufs.length:Int))=true:=by simpa using h2
  have hn:c.bufs[i]?=none:=z'x (by omega)
  have hr:x'x c i loc=0:=by simp[x'x,hn]
  rw[hr]
  repeat' first|refine vb rfl rfl rfl rfl ?_|refine vs T rfl fun K hK=>?_;(try simp (disch:=omega) only[go_sem,Nat.reduceBEq,Nat.reduceAdd,e1,e2,z'J]);(refine hK _ _ ?_;clear hK K)|refine st rfl ?_|refine sc rfl ?_|refine nl ?_|refine gs rfl rfl ?_|exact z'j T (z'a _) ⟨rfl,rfl⟩
 have e2:decide ((i:Int)≥(c.bufs.length:Int))=false:=by simpa using h2
 by_cases h3:loc<0
 ·have e3:decide (loc<0)=true:=by simpa using h3
  have hr:x'x c i loc=0:=by
   unfold x'x
   rw[decide_eq_false (x'd.2 h3)]
   split<;>simp_all
  rw[hr]
  repeat' first|refine vb rfl rfl rfl rfl ?_|refine vs T rfl fun K hK=>?_;(try simp (disch:=omega) only[go_sem,Nat.reduceBEq,Nat.reduceAdd,e1,e2,e3,z'J]);(refine hK _ _ ?_;clear hK K)|refine st rfl ?_|refine sc rfl ?_|refine nl ?_|refine gs rfl rfl ?_|exact z'j T (z'a _) ⟨rfl,rfl⟩
 have e3:decide (loc<0)=false:=by simpa using h3
 obtain⟨j,rfl⟩: ∃j:Nat,loc=(j:Int):=⟨loc.toNat,by omega⟩
 by_cases h4:(j:Int)≥(c.mem.length:Int)
 ·have e4:decide ((j:Int)≥(c.mem.length:Int))=true:=by simpa using h4
  have hn:c.mem[j]?=none:=z'x (by omega)
  have hr:x'x c i j=0:=by
   unfold x'x
   rw[show((j:Int)).toNat=j from rfl,hn]
   split<;>simp_all
  rw[hr]
  repeat' first|refine vb rfl rfl rfl rfl ?_|refine vs T rfl fun K hK=>?_;(try simp (disch:=omega) only[go_sem,Nat.reduceBEq,Nat.reduceAdd,e1,e2,e3,e4,z'J,z'l]);(refine hK _ _ ?_;clear hK K)|refine st rfl ?_|refine sc rfl ?_|refine nl ?_|refine gs rfl rfl ?_|exact z'j T (z'a _) ⟨rfl,rfl⟩
 have e4:decide ((j:Int)≥(c.mem.length:Int))=false:=by simpa using h4
 obtain⟨b,hb⟩: ∃b,c.bufs[i]?=some b:=⟨_,z'b (by omega)⟩
 obtain⟨n,hn⟩: ∃n,c.mem[j]?=some n:=⟨_,z'b (by omega)⟩
 have rb:(y'U c.bufs)[i]?=some [buf b]:=by rw[y'P,hb];rfl
 have rn:(iRs c.mem)[j]?=some [iD n]:=by rw[y'y,hn];rfl
 have hbl:=hc b (z'f hb)
 have hil:i<c.bufs.length:=by omega
 have hjl:j<c.mem.length:=by omega
 have hr:x'x c i j=(v't j b).getD n:=by simp[x'x,hb,hn]
 rw[hr]
 have cl:=ZmN b (by omega) (j:Int)
 cases hl:v't (j:Int) b with
 |none=>
  rw[hl]at cl
  have cl':Pure Tryz.prog 165 [buf b,iD (j:Int)] (.tup [iD 0,bD false]):=cl
  repeat' first|refine vb rfl rfl rfl rfl ?_|refine vs T rfl fun K hK=>?_;(try simp (disch:=omega) only[go_sem,Nat.reduceBEq,Nat.reduceAdd,e1,e2,e3,e4,rb,rn,z'J,z'l]);(first|refine hK _ _ ?_;clear hK K|refine⟨?_,hK _ _ ?_⟩<;>clear hK K;focus(try omega)|refine Op1.callp rfl rfl (cl') rfl ?_;refine hK _ _ ?_;clear hK K)|refine st rfl ?_|refine sc rfl ?_|refine nl ?_|refine gs rfl rfl ?_|exact z'j T (z'a _) ⟨rfl,rfl⟩
 |some v=>
  rw[hl]at cl
  have cl':Pure Tryz.prog 165 [buf b,iD (j:Int)] (.tup [iD v,bD true]):=cl
  repeat' first|refine vb rfl rfl rfl rfl ?_|refine vs T rfl fun K hK=>?_;(try simp (disch:=omega) only[go_sem,Nat.reduceBEq,Nat.reduceAdd,e1,e2,e3,e4,rb,z'J,z'l]);(first|refine hK _ _ ?_;clear hK K|refine⟨?_,hK _ _ ?_⟩<;>clear hK K;focus(try omega)|refine Op1.callp rfl rfl (cl') rfl ?_;refine hK _ _ ?_;clear hK K)|refine st rfl ?_|refine sc rfl ?_|refine nl ?_|refine gs rfl rfl ?_|exact z'j T (z'a _) ⟨rfl,rfl⟩
def x'n (c:Cf) (m t loc:Int):Bool:=match decide (0≤t),c.bufs[t.toNat]? with
 |true,some b=>(y'L m loc b).2.2
 |_,_=>false
theorem ZgC (c:Cf) (hc:Zgu c) (m t loc:Int):Pure Tryz.prog 240 [.agg (cfC c),iD m,iD t,iD loc] (bD (x'n c m t loc)):=by
 refine Fun.of T [.tmp 8] Tryz.func240 rfl Tryz.ntmps240 Tryz.results240 rfl (by kernel_rfl) ?_
 by_cases h1:t<0
 ·have e1:decide (t<0)=true:=by simpa using h1
  have hr:x'n c m t loc=false:=by simp[x'n,x'd.2 h1]
  rw[hr]
  repeat' first|refine vb rfl rfl rfl rfl ?_|refine vs T rfl fun K hK=>?_;(try simp (disch:=omega) only[go_sem,Nat.reduceBEq,Nat.reduceAdd,e1]);(refine hK _ _ ?_;clear hK K)|refine st rfl ?_|refine sc rfl ?_|refine nl ?_|refine gs rfl rfl ?_|exact z'j T (z'a _) ⟨rfl,rfl⟩
 have e1:decide (t<0)=false:=by simpa using h1
 obtain⟨i,rfl⟩: ∃i:Nat,t=(i:Int):=⟨t.toNat,by omega⟩
 by_cases h2:(i:Int)≥(c.bufs.length:Int)
 ·have e2:decide ((i:Int)≥(c.bufs.length:Int))=true:=by simpa using h2
  have hn:c.bufs[i]?=none:=z'x (by omega)
  have hr:x'n c m i loc=false:=by simp[x'n,hn]
  rw[hr]
  repeat' first|refine vb rfl rfl rfl rfl ?_|refine vs T rfl fun K hK=>?_;(try simp (disch:=omega) only[go_sem,Nat.reduceBEq,Nat.reduceAdd,e1,e2,z'J]);(refine hK _ _ ?_;clear hK K)|refine st rfl ?_|refine sc rfl ?_|refine nl ?_|refine gs rfl rfl ?_|exact z'j T (z'a _) ⟨rfl,rfl⟩
 have e2:decide ((i:Int)≥(c.bufs.length:Int))=false:=by simpa using h2
 obtain⟨b,hb⟩: ∃b,c.bufs[i]?=some b:=⟨_,z'b (by omega)⟩
 have rb:(y'U c.bufs)[i]?=some [buf b]:=by rw[y'P,hb];rfl
 have hbl:=hc b (z'f hb)
 have hil:i<c.bufs.length:=by omega
 have hr:x'n c m i loc=(y'L m loc b).2.2:=by simp[x'n,hb]
 rw[hr]
 have cl:Pure Tryz.prog 241 [buf b,iD m,iD loc] (.tup [buf (y'L m loc b).1,.agg [iD (y'L m loc b).2.1.1,iD (y'L m loc b).2.1.2],bD (y'L m loc b).2.2]):=ZlM b (by omega) m loc
 repeat' first|refine vb rfl rfl rfl rfl ?_|refine vs T rfl fun K hK=>?_;(try simp (disch:=omega) only[go_sem,Nat.reduceBEq,Nat.reduceAdd,Nat.reduceLeDiff,e1,e2,rb,z'J]);(first|refine hK _ _ ?_;clear hK K|intro bq hbq;(try simp only[HB]at hbq);refine hK _ _ ?_;clear hK K|refine⟨?_,hK _ _ ?_⟩<;>clear hK K;focus(try omega)|refine Op1.callp rfl rfl (cl) rfl ?_;refine hK _ _ ?_;clear hK K)|refine st rfl ?_|refine sc rfl ?_|refine nl ?_|refine gs rfl rfl ?_|exact z'j T (z'a _) ⟨rfl,rfl⟩
theorem Zdk (c:Cf) (hc:Zgu c) (m t loc:Int):Pure Tryz.prog 126 [.agg (cfC c),iD m,iD t,iD loc] (bD (x'n c m t loc)):=by
 refine Fun.of T [.tmp 8] Tryz.func126 rfl Tryz.ntmps126 Tryz.results126 rfl (by kernel_rfl) ?_
 by_cases h1:t<0
 ·have e1:decide (t<0)=true:=by simpa using h1
  have hr:x'n c m t loc=false:=by simp[x'n,x'd.2 h1]
  rw[hr]
  repeat' first|refine vb rfl rfl rfl rfl ?_|refine vs T rfl fun K hK=>?_;(try simp (disch:=omega) only[go_sem,Nat.reduceBEq,Nat.reduceAdd,e1]);(refine hK _ _ ?_;clear hK K)|refine st rfl ?_|refine sc rfl ?_|refine nl ?_|refine gs rfl rfl ?_|exact z'j T (z'a _) ⟨rfl,rfl⟩
 have e1:decide (t<0)=false:=by simpa using h1
 obtain⟨i,rfl⟩: ∃i:Nat,t=(i:Int):=⟨t.toNat,by omega⟩
 by_cases h2:(i:Int)≥(c.bufs.length:Int)
 ·have e2:decide ((i:Int)≥(c.bufs.length:Int))=true:=by simpa using h2
  have hn:c.bufs[i]?=none:=z'x (by omega)
  have hr:x'n c m i loc=false:=by simp[x'n,hn]
  rw[hr]
  repeat' first|refine vb rfl rfl rfl rfl ?_|refine vs T rfl fun K hK=>?_;(try simp (disch:=omega) only[go_sem,Nat.reduceBEq,Nat.reduceAdd,e1,e2,z'J]);(refine hK _ _ ?_;clear hK K)|refine st rfl ?_|refine sc rfl ?_|refine nl ?_|refine gs rfl rfl ?_|exact z'j T (z'a _) ⟨rfl,rfl⟩
 have e2:decide ((i:Int)≥(c.bufs.length:Int))=false:=by simpa using h2
 obtain⟨b,hb⟩: ∃b,c.bufs[i]?=some b:=⟨_,z'b (by omega)⟩
 have rb:(y'U c.bufs)[i]?=some [buf b]:=by rw[y'P,hb];rfl
 have hbl:=hc b (z'f hb)
 have hil:i<c.bufs.length:=by omega
 have hr:x'n c m i loc=(y'L m loc b).2.2:=by simp[x'n,hb]
 rw[hr]
 have cl:Pure Tryz.prog 141 [buf b,iD m,iD loc] (.tup [buf (y'L m loc b).1,.agg [iD (y'L m loc b).2.1.1,iD (y'L m loc b).2.1.2],bD (y'L m loc b).2.2]):=ZjV b (by omega) m loc
 repeat' first|refine vb rfl rfl rfl rfl ?_|refine vs T rfl fun K hK=>?_;(try simp (disch:=omega) only[go_sem,Nat.reduceBEq,Nat.reduceAdd,Nat.reduceLeDiff,e1,e2,rb,z'J]);(first|refine hK _ _ ?_;clear hK K|intro bq hbq;(try simp only[HB]at hbq);refine hK _ _ ?_;clear hK K|refine⟨?_,hK _ _ ?_⟩<;>clear hK K;focus(try omega)|refine Op1.callp rfl rfl (cl) rfl ?_;refine hK _ _ ?_;clear hK K)|refine st rfl ?_|refine sc rfl ?_|refine nl ?_|refine gs rfl rfl ?_|exact z'j T (z'a _) ⟨rfl,rfl⟩
theorem ZaC {α:Type} {l:List α} {p:α→Bool} (h: ∀(i:Nat) (x:α),i<l.length→l[i]?=some x→p x=true):l.all p=true:=by
 rw[z'B]
 intro x hx
 obtain⟨i,hi⟩:=x'y hx
 exact h i x (z'c.1 hi).1 hi
theorem v'g {α:Type} {l:List α} {p:α→Bool} {i:Nat} {x:α} (h:l[i]?=some x) (hp:p x=false):l.all p=false:=by
 rw[w'T]
 exact⟨x,z'f h,by simp[hp]⟩
theorem v'W {α:Type} {l:List α} {p:α→Bool} {k:Nat} {x:α} (hs: ∀(i:Nat) (y:α),i<k→l[i]?=some y→p y=true) (hx:l[k]?=some x) (hp:p x=true): ∀(i:Nat) (y:α),i<k+1→l[i]?=some y→p y=true:=fun i y hi hy=>by
 rcases z'g i k with h|h
 ·exact hs i y h hy
 ·obtain rfl:i=k:=by omega
  rw[hx]at hy;cases hy;exact hp
def ZbE (c:Cf):Bool:=c.bufs.all fun b=>decide (b.length=0)
theorem Zlw (c:Cf) (hn:c.bufs.length≤1000000):Pure Tryz.prog 133 [.agg (cfC c)] (bD (ZbE c)):=by
 refine Fun.of T [.tmp 2] Tryz.func133 rfl Tryz.ntmps133 Tryz.results133 rfl (by kernel_rfl) ?_
 repeat' first|refine vb rfl rfl rfl rfl ?_|refine vs T rfl fun K hK=>?_;(try simp (disch:=omega) only[go_sem]);(refine hK _ _ ?_;clear hK K)|refine st rfl ?_|refine nl ?_
 refine VC.loop {k:Nat//k≤c.bufs.length∧ ∀(i:Nat) (y:List En),i<k→c.bufs[i]?=some y→decide (y.length=0)=true} (fun p=>⟨z'M [(1,.pt (cfC c)),(3,iD (p.1:Nat))],[]⟩) (fun p=>c.bufs.length-p.1) ⟨0,by omega,fun i y hi=>by omega⟩ ?_ ?_
 ·refine Weak.sub ?_
  simp[sub,upd]
 ·rintro⟨k,hk,hs⟩
  dsimp only
  rcases z'g k c.bufs.length with hlt|hge
  ·have hd:decide ((k:Int)<(c.bufs.length:Int))=true:=by simp;omega
   have hw:IntKind.i64.wrap ((k:Int)+1)=((k+1:Nat):Int):=by rw[w64 (by omega)];omega
   obtain⟨b,hb⟩: ∃b,c.bufs[k]?=some b:=⟨_,z'b hlt⟩
   have rb:(y'U c.bufs)[k]?=some [buf b]:=by rw[y'P,hb];rfl
   by_cases h0:b.length=0
   ·have e0:decide ((b.length:Int)>0)=false:=by rw[h0];rfl
    repeat' first|refine vs T rfl fun K hK=>?_;(try simp (disch:=omega) only[go_sem,Nat.reduceBEq,hd,hw,rb,e0,z'J,z't]);(first|refine hK _ _ ?_;clear hK K|refine⟨?_,hK _ _ ?_⟩<;>clear hK K;focus(try omega))|refine st rfl ?_|refine sc rfl ?_|refine nl ?_
    refine⟨⟨k+1,by omega,v'W hs hb (by simpa using h0)⟩,Weak.sub ?_,by simp only[];omega⟩
    simp[sub,upd]
   ·have e0:decide ((b.length:Int)>0)=true:=by simp;omega
    have hr:ZbE c=false:=v'g hb (by simpa using h0)
    rw[hr]
    repeat' first|refine vs T rfl fun K hK=>?_;(try simp (disch:=omega) only[go_sem,Nat.reduceBEq,hd,rb,e0,z'J,z't]);(first|refine hK _ _ ?_;clear hK K|refine⟨?_,hK _ _ ?_⟩<;>clear hK K;focus(try omega))|refine st rfl ?_|refine sc rfl ?_|refine nl ?_|exact z'j T (z'a _) ⟨rfl,rfl⟩
  ·have hd:decide ((k:Int)<(c.bufs.length:Int))=false:=by simp;omega
   have hr:ZbE c=true:=ZaC fun i x hi hx=>hs i x (by omega) hx
   rw[hr]
   repeat' first|refine vs T rfl fun K hK=>?_;(try simp (disch:=omega) only[go_sem,Nat.reduceBEq,hd,z'J]);(refine hK _ _ ?_;clear hK K)|refine st rfl ?_|refine sc rfl ?_|refine nl ?_|exact z'j T (z'a _) ⟨rfl,rfl⟩
def ZaB (c:Cf):Bool:=(decide (c.pc.length≤8)&&decide (c.regs.length≤8)&&decide (c.bufs.length≤8)&&decide (c.mem.length≤20))&&((c.regs.all fun r=>decide (r.length≤20))&&(c.bufs.all fun b=>decide (b.length≤60)))
theorem ZkF (c:Cf):Pure Tryz.prog 40 [.agg (cfC c)] (bD (ZaB c)):=by
 by_cases hg:c.pc.length≤8∧c.regs.length≤8∧c.bufs.length≤8∧c.mem.length≤20
 ·obtain⟨g1,g2,g3,g4⟩:=hg
  have e1:decide ((c.pc.length:Int)>8)=false:=by simp;omega
  have e2:decide ((c.regs.length:Int)>8)=false:=by simp;omega
  have e3:decide ((c.bufs.length:Int)>8)=false:=by simp;omega
  have e4:decide ((c.mem.length:Int)>20)=false:=by simp;omega
  have hL:ZaB c=((c.regs.all fun r=>decide (r.length≤20))&&(c.bufs.all fun b=>decide (b.length≤60))):=by simp[ZaB,g1,g2,g3,g4]
  refine Fun.of T [.tmp 2] Tryz.func40 rfl Tryz.ntmps40 Tryz.results40 rfl (by kernel_rfl) ?_
  repeat' first|refine vb rfl rfl rfl rfl ?_|refine vs T rfl fun K hK=>?_;(try simp (disch:=omega) only[go_sem,Nat.reduceBEq,e1,e2,e3,e4,z'l,z'W,z'J]);(refine hK _ _ ?_;clear hK K)|refine st rfl ?_|refine sc rfl ?_|refine nl ?_|refine gs rfl rfl ?_
  refine VC.loop {k:Nat//k≤c.regs.length∧ ∀(i:Nat) (y:List Int),i<k→c.regs[i]?=some y→decide (y.length≤20)=true} (fun p=>⟨z'M [(1,.pt (cfC c)),(3,iD (p.1:Nat))],[]⟩) (fun p=>c.regs.length-p.1) ⟨0,by omega,fun i y hi=>by omega⟩ ?_ ?_
  ·refine Weak.sub ?_
   simp[sub,upd]
  ·rintro⟨k,hk,hs⟩
   dsimp only
   rcases z'g k c.regs.length with hlt|hge
   ·have hd:decide ((k:Int)<(c.regs.length:Int))=true:=by simp;omega
    have hw:IntKind.i64.wrap ((k:Int)+1)=((k+1:Nat):Int):=by rw[w64 (by omega)];omega
    obtain⟨b,hb⟩: ∃b,c.regs[k]?=some b:=⟨_,z'b hlt⟩
    have rb:(x'j c.regs)[k]?=some [z'S b]:=by rw[w'j,hb];rfl
    by_cases h0:b.length≤20
    ·have e0:decide ((b.length:Int)>20)=false:=by simp;omega
     repeat' first|refine vs T rfl fun K hK=>?_;(try simp (disch:=omega) only[go_sem,Nat.reduceBEq,hd,hw,rb,e0,z'W,z'l]);(first|refine hK _ _ ?_;clear hK K|refine⟨?_,hK _ _ ?_⟩<;>clear hK K;focus(try omega))|refine st rfl ?_|refine sc rfl ?_|refine nl ?_
     refine⟨⟨k+1,by omega,v'W hs hb (by simpa using h0)⟩,Weak.sub ?_,by simp only[];omega⟩
     simp[sub,upd]
    ·have e0:decide ((b.length:Int)>20)=true:=by simp;omega
     have hr:ZaB c=false:=by rw[hL,v'g (p:=fun r=>decide (r.length≤20)) hb (by simpa using h0)];rfl
     rw[hr]
     repeat' first|refine vs T rfl fun K hK=>?_;(try simp (disch:=omega) only[go_sem,Nat.reduceBEq,hd,rb,e0,z'W,z'l]);(first|refine hK _ _ ?_;clear hK K|refine⟨?_,hK _ _ ?_⟩<;>clear hK K;focus(try omega))|refine st rfl ?_|refine sc rfl ?_|refine nl ?_|exact z'j T (z'a _) ⟨rfl,rfl⟩
   ·have hd:decide ((k:Int)<(c.regs.length:Int))=false:=by simp;omega
    have hr1:(c.regs.all fun r=>decide (r.length≤20))=true:=ZaC fun i x hi hx=>hs i x (by omega) hx
    rw[hr1,y'Z]at hL
    repeat' first|refine vs T rfl fun K hK=>?_;(try simp (disch:=omega) only[go_sem,Nat.reduceBEq,hd,z'W]);(refine hK _ _ ?_;clear hK K)|refine st rfl ?_|refine sc rfl ?_|refine nl ?_
    refine VC.loop {k:Nat//k≤c.bufs.length∧ ∀(i:Nat) (y:List En),i<k→c.bufs[i]?=some y→decide (y.length≤60)=true} (fun p=>⟨z'M [(1,.pt (cfC c)),(4,iD (p.1:Nat))],[]⟩) (fun p=>c.bufs.length-p.1) ⟨0,by omega,fun i y hi=>by omega⟩ ?_ ?_
    ·refine Weak.sub ?_
     simp[sub,upd]
    ·rintro⟨k,hk,hs⟩
     dsimp only
     rcases z'g k c.bufs.length with hlt|hge
     ·have hd:decide ((k:Int)<(c.bufs.length:Int))=true:=by simp;omega
      have hw:IntKind.i64.wrap ((k:Int)+1)=((k+1:Nat):Int):=by rw[w64 (by omega)];omega
      obtain⟨b,hb⟩: ∃b,c.bufs[k]?=some b:=⟨_,z'b hlt⟩
      have rb:(y'U c.bufs)[k]?=some [buf b]:=by rw[y'P,hb];rfl
      by_cases h0:b.length≤60
      ·have e0:decide ((b.length:Int)>60)=false:=by simp;omega
       repeat' first|refine vs T rfl fun K hK=>?_;(try simp (disch:=omega) only[go_sem,Nat.reduceBEq,hd,hw,rb,e0,z'J,z't]);(first|refine hK _ _ ?_;clear hK K|refine⟨?_,hK _ _ ?_⟩<;>clear hK K;focus(try omega))|refine st rfl ?_|refine sc rfl ?_|refine nl ?_
       refine⟨⟨k+1,by omega,v'W hs hb (by simpa using h0)⟩,Weak.sub ?_,by simp only[];omega⟩
       simp[sub,upd]
      ·have e0:decide ((b.length:Int)>60)=true:=by simp;omega
       have hr:ZaB c=false:=by rw[hL];exact v'g hb (by simpa using h0)
       rw[hr]
       repeat' first|refine vs T rfl fun K hK=>?_;(try simp (disch:=omega) only[go_sem,Nat.reduceBEq,hd,rb,e0,z'J,z't]);(first|refine hK _ _ ?_;clear hK K|refine⟨?_,hK _ _ ?_⟩<;>clear hK K;focus(try omega))|refine st rfl ?_|refine sc rfl ?_|refine nl ?_|exact z'j T (z'a _) ⟨rfl,rfl⟩
     ·have hd:decide ((k:Int)<(c.bufs.length:Int))=false:=by simp;omega
      have hr:ZaB c=true:=by rw[hL];exact ZaC fun i x hi hx=>hs i x (by omega) hx
      rw[hr]
      repeat' first|refine vs T rfl fun K hK=>?_;(try simp (disch:=omega) only[go_sem,Nat.reduceBEq,hd,z'J]);(refine hK _ _ ?_;clear hK K)|refine st rfl ?_|refine sc rfl ?_|refine nl ?_|exact z'j T (z'a _) ⟨rfl,rfl⟩
 ·have hL:ZaB c=false:=by
   unfold ZaB
   have:(decide (c.pc.length≤8)&&decide (c.regs.length≤8)&&decide (c.bufs.length≤8)&&decide (c.mem.length≤20))=false:=by
    rw[Bool.eq_false_iff]
    intro h
    simp only[z'h,decide_eq_true_eq]at h
    exact hg ⟨h.1.1.1,h.1.1.2,h.1.2,h.2⟩
   rw[this];rfl
  rw[hL]
  refine Fun.of T [.tmp 2] Tryz.func40 rfl Tryz.ntmps40 Tryz.results40 rfl (by kernel_rfl) ?_
  by_cases g1:c.pc.length≤8
  ·have e1:decide ((c.pc.length:Int)>8)=false:=by simp;omega
   by_cases g2:c.regs.length≤8
   ·have e2:decide ((c.regs.length:Int)>8)=false:=by simp;omega
    by_cases g3:c.bufs.length≤8
    ·have e3:decide ((c.bufs.length:Int)>8)=false:=by simp;omega
     have e4:decide ((c.mem.length:Int)>20)=true:=by simp;omega
     repeat' first|refine vb rfl rfl rfl rfl ?_|refine vs T rfl fun K hK=>?_;(try simp (disch:=omega) only[go_sem,Nat.reduceBEq,e1,e2,e3,e4,z'l,z'W,z'J]);(refine hK _ _ ?_;clear hK K)|refine st rfl ?_|refine sc rfl ?_|refine nl ?_|refine gs rfl rfl ?_|exact z'j T (z'a _) ⟨rfl,rfl⟩
    ·have e3:decide ((c.bufs.length:Int)>8)=true:=by simp;omega
     repeat' first|refine vb rfl rfl rfl rfl ?_|refine vs T rfl fun K hK=>?_;(try simp (disch:=omega) only[go_sem,Nat.reduceBEq,e1,e2,e3,z'l,z'W,z'J]);(refine hK _ _ ?_;clear hK K)|refine st rfl ?_|refine sc rfl ?_|refine nl ?_|refine gs rfl rfl ?_|exact z'j T (z'a _) ⟨rfl,rfl⟩
   ·have e2:decide ((c.regs.length:Int)>8)=true:=by simp;omega
    repeat' first|refine vb rfl rfl rfl rfl ?_|refine vs T rfl fun K hK=>?_;(try simp (disch:=omega) only[go_sem,Nat.reduceBEq,e1,e2,z'l,z'W]);(refine hK _ _ ?_;clear hK K)|refine st rfl ?_|refine sc rfl ?_|refine nl ?_|refine gs rfl rfl ?_|exact z'j T (z'a _) ⟨rfl,rfl⟩
  ·have e1:decide ((c.pc.length:Int)>8)=true:=by simp;omega
   repeat' first|refine vb rfl rfl rfl rfl ?_|refine vs T rfl fun K hK=>?_;(try simp (disch:=omega) only[go_sem,Nat.reduceBEq,e1,z'l]);(refine hK _ _ ?_;clear hK K)|refine st rfl ?_|refine sc rfl ?_|refine nl ?_|refine gs rfl rfl ?_|exact z'j T (z'a _) ⟨rfl,rfl⟩
end Go.Proofs.YtomcmfbpmkklmaaGreat
