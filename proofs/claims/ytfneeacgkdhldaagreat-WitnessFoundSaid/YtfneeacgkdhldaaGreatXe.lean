/- Units and configurations; what a thread reads. No condition. -/
import Derived.Test.YtfneeacgkdhldaaGreatXc
namespace Go.Proofs.YtfneeacgkdhldaaGreat
set_option maxHeartbeats 16000000
set_option linter.unusedSimpArgs false
set_option linter.unusedVariables false
set_option maxRecDepth 20000
open Go Go.Proofs Go.Vc
attribute [local irreducible] y'5 VCg VCw VCx
abbrev Opc:=Int×Int×Int
def opR (x:Opc):List D:=[iD x.1,iD x.2.1,iD x.2.2]
def ZdD (l:List Opc):List (List D):=l.map opR
abbrev z'S (l:List Opc):D:= .sl false 3 (ZdD l)
structure Ins where
 op:Int
 reg:Int
 loc:Int
 e:List Opc
 f:List Opc
 ne:Bool
 to:Int
def v'e (x:Ins):List D:=[iD x.op,iD x.reg,iD x.loc,z'S x.e,z'S x.f,bD x.ne,iD x.to]
def y'P (l:List Ins):List (List D):=l.map v'e
def x'9 (c:List (List Ins)):List (List D):=c.map fun l=>[.sl false 7 (y'P l)]
structure Un where
 md:Int
 init:List Int
 regs:List Int
 code:List (List Ins)
abbrev unC (u:Un):List D:=[iD u.md,z'C u.init,z'C u.regs,.sl false 1 (x'9 u.code)]
def y'V (l:List (List Int)):List (List D):=l.map fun r=>[z'C r]
def y'Y (l:List (List En)):List (List D):=l.map fun b=>[buf b]
structure Cf where
 pc:List Int
 regs:List (List Int)
 mem:List Int
 bufs:List (List En)
abbrev cfC (c:Cf):List D:=[z'C c.pc,.sl false 1 (y'V c.regs),z'C c.mem,.sl false 1 (y'Y c.bufs)]
theorem z'K (l:List Opc):(ZdD l).length=l.length:=z's ..
theorem Zca (l:List Opc) (i:Nat):(ZdD l)[i]?=(l[i]?).map opR:=y'c ..
theorem z'7 (l:List Ins):(y'P l).length=l.length:=z's ..
theorem x'Q (l:List Ins) (i:Nat):(y'P l)[i]?=(l[i]?).map v'e:=y'c ..
theorem z'Q (l:List (List Ins)):(x'9 l).length=l.length:=z's ..
theorem x'O (l:List (List Ins)) (i:Nat):(x'9 l)[i]?=(l[i]?).map fun l=>[.sl false 7 (y'P l)]:=y'c ..
theorem y'm (l:List (List Int)):(y'V l).length=l.length:=z's ..
theorem w'Z (l:List (List Int)) (i:Nat):(y'V l)[i]?=(l[i]?).map fun r=>[z'C r]:=y'c ..
theorem z'Z (l:List (List En)):(y'Y l).length=l.length:=z's ..
theorem x'b (l:List (List En)) (i:Nat):(y'Y l)[i]?=(l[i]?).map fun b=>[buf b]:=y'c ..
def Zf2 (c:Cf):Prop:= ∀b,b∈c.bufs→b.length≤1000
def x'u (c:Cf) (t loc:Int):Int:=match decide (0≤t),c.bufs[t.toNat]?,decide (0≤loc),c.mem[loc.toNat]? with
 |true,some b,true,some n=>(w'9 loc b).getD n
 |_,_,_,_=>0
theorem Zh8 (c:Cf) (hc:Zf2 c) (t loc:Int):Pure Tryz.prog 166 [.agg (cfC c),iD t,iD loc] (iD (x'u c t loc)):=by
 refine Fun.of T [.tmp 6] Tryz.func166 rfl Tryz.ntmps166 Tryz.results166 rfl (by kernel_rfl) ?_
 by_cases h1:t<0
 ·have e1:decide (t<0)=true:=by simpa using h1
  have hr:x'u c t loc=0:=by simp[x'u,y'e.2 h1]
  rw[hr]
  repeat' first|refine vb rfl rfl rfl rfl ?_|refine vs T rfl fun K hK=>?_;(try simp (disch:=omega) only[go_sem,Nat.reduceBEq,Nat.reduceAdd,e1]);(refine hK _ _ ?_;clear hK K)|refine st rfl ?_|refine sc rfl ?_|refine nl ?_|refine gs rfl rfl ?_|exact z'n T (z'a _) ⟨rfl,rfl⟩
 have e1:decide (t<0)=false:=by simpa using h1
 obtain⟨i,rfl⟩: ∃i:Nat,t=(i:Int):=⟨t.toNat,by omega⟩
 by_cases h2:(i:Int)≥(c.bufs.length:Int)
 ·have e2:decide ((i:Int)≥(c.bufs.length:Int))=true:=by simpa using h2
  have hn:c.bufs[i]?=none:=z'z (by omega)
  have hr:x'u c i loc=0:=by simp[x'u,hn]
  rw[hr]
  repeat' first|refine vb rfl rfl rfl rfl ?_|refine vs T rfl fun K hK=>?_;(try simp (disch:=omega) only[go_sem,Nat.reduceBEq,Nat.reduceAdd,e1,e2,z'Z]);(refine hK _ _ ?_;clear hK K)|refine st rfl ?_|refine sc rfl ?_|refine nl ?_|refine gs rfl rfl ?_|exact z'n T (z'a _) ⟨rfl,rfl⟩
 have e2:decide ((i:Int)≥(c.bufs.length:Int))=false:=by simpa using h2
 by_cases h3:loc<0
 ·have e3:decide (loc<0)=true:=by simpa using h3
  have hr:x'u c i loc=0:=by
   unfold x'u
   rw[decide_eq_false (y'e.2 h3)]
   split<;>simp_all
  rw[hr]
  repeat' first|refine vb rfl rfl rfl rfl ?_|refine vs T rfl fun K hK=>?_;(try simp (disch:=omega) only[go_sem,Nat.reduceBEq,Nat.reduceAdd,e1,e2,e3,z'Z]);(refine hK _ _ ?_;clear hK K)|refine st rfl ?_|refine sc rfl ?_|refine nl ?_|refine gs rfl rfl ?_|exact z'n T (z'a _) ⟨rfl,rfl⟩
 have e3:decide (loc<0)=false:=by simpa using h3
 obtain⟨j,rfl⟩: ∃j:Nat,loc=(j:Int):=⟨loc.toNat,by omega⟩
 by_cases h4:(j:Int)≥(c.mem.length:Int)
 ·have e4:decide ((j:Int)≥(c.mem.length:Int))=true:=by simpa using h4
  have hn:c.mem[j]?=none:=z'z (by omega)
  have hr:x'u c i j=0:=by
   unfold x'u
   rw[show((j:Int)).toNat=j from rfl,hn]
   split<;>simp_all
  rw[hr]
  repeat' first|refine vb rfl rfl rfl rfl ?_|refine vs T rfl fun K hK=>?_;(try simp (disch:=omega) only[go_sem,Nat.reduceBEq,Nat.reduceAdd,e1,e2,e3,e4,z'Z,z'k]);(refine hK _ _ ?_;clear hK K)|refine st rfl ?_|refine sc rfl ?_|refine nl ?_|refine gs rfl rfl ?_|exact z'n T (z'a _) ⟨rfl,rfl⟩
 have e4:decide ((j:Int)≥(c.mem.length:Int))=false:=by simpa using h4
 obtain⟨b,hb⟩: ∃b,c.bufs[i]?=some b:=⟨_,z'b (by omega)⟩
 obtain⟨n,hn⟩: ∃n,c.mem[j]?=some n:=⟨_,z'b (by omega)⟩
 have rb:(y'Y c.bufs)[i]?=some [buf b]:=by rw[x'b,hb];rfl
 have rn:(iRs c.mem)[j]?=some [iD n]:=by rw[y'Q,hn];rfl
 have hbl:=hc b (z'h hb)
 have hil:i<c.bufs.length:=by omega
 have hjl:j<c.mem.length:=by omega
 have hr:x'u c i j=(w'9 j b).getD n:=by simp[x'u,hb,hn]
 rw[hr]
 have cl:=ZnV b (by omega) (j:Int)
 cases hl:w'9 (j:Int) b with
 |none=>
  rw[hl]at cl
  have cl':Pure Tryz.prog 173 [buf b,iD (j:Int)] (.tup [iD 0,bD false]):=cl
  repeat' first|refine vb rfl rfl rfl rfl ?_|refine vs T rfl fun K hK=>?_;(try simp (disch:=omega) only[go_sem,Nat.reduceBEq,Nat.reduceAdd,e1,e2,e3,e4,rb,rn,z'Z,z'k]);(first|refine hK _ _ ?_;clear hK K|refine⟨?_,hK _ _ ?_⟩<;>clear hK K;focus(try omega)|refine Op1.callp rfl rfl (cl') rfl ?_;refine hK _ _ ?_;clear hK K)|refine st rfl ?_|refine sc rfl ?_|refine nl ?_|refine gs rfl rfl ?_|exact z'n T (z'a _) ⟨rfl,rfl⟩
 |some v=>
  rw[hl]at cl
  have cl':Pure Tryz.prog 173 [buf b,iD (j:Int)] (.tup [iD v,bD true]):=cl
  repeat' first|refine vb rfl rfl rfl rfl ?_|refine vs T rfl fun K hK=>?_;(try simp (disch:=omega) only[go_sem,Nat.reduceBEq,Nat.reduceAdd,e1,e2,e3,e4,rb,z'Z,z'k]);(first|refine hK _ _ ?_;clear hK K|refine⟨?_,hK _ _ ?_⟩<;>clear hK K;focus(try omega)|refine Op1.callp rfl rfl (cl') rfl ?_;refine hK _ _ ?_;clear hK K)|refine st rfl ?_|refine sc rfl ?_|refine nl ?_|refine gs rfl rfl ?_|exact z'n T (z'a _) ⟨rfl,rfl⟩
theorem ZgY (c:Cf) (hc:Zf2 c) (t loc:Int):Pure Tryz.prog 69 [.agg (cfC c),iD t,iD loc] (iD (x'u c t loc)):=by
 refine Fun.of T [.tmp 6] Tryz.func69 rfl Tryz.ntmps69 Tryz.results69 rfl (by kernel_rfl) ?_
 by_cases h1:t<0
 ·have e1:decide (t<0)=true:=by simpa using h1
  have hr:x'u c t loc=0:=by simp[x'u,y'e.2 h1]
  rw[hr]
  repeat' first|refine vb rfl rfl rfl rfl ?_|refine vs T rfl fun K hK=>?_;(try simp (disch:=omega) only[go_sem,Nat.reduceBEq,Nat.reduceAdd,e1]);(refine hK _ _ ?_;clear hK K)|refine st rfl ?_|refine sc rfl ?_|refine nl ?_|refine gs rfl rfl ?_|exact z'n T (z'a _) ⟨rfl,rfl⟩
 have e1:decide (t<0)=false:=by simpa using h1
 obtain⟨i,rfl⟩: ∃i:Nat,t=(i:Int):=⟨t.toNat,by omega⟩
 by_cases h2:(i:Int)≥(c.bufs.length:Int)
 ·have e2:decide ((i:Int)≥(c.bufs.length:Int))=true:=by simpa using h2
  have hn:c.bufs[i]?=none:=z'z (by omega)
  have hr:x'u c i loc=0:=by simp[x'u,hn]
  rw[hr]
  repeat' first|refine vb rfl rfl rfl rfl ?_|refine vs T rfl fun K hK=>?_;(try simp (disch:=omega) only[go_sem,Nat.reduceBEq,Nat.reduceAdd,e1,e2,z'Z]);(refine hK _ _ ?_;clear hK K)|refine st rfl ?_|refine sc rfl ?_|refine nl ?_|refine gs rfl rfl ?_|exact z'n T (z'a _) ⟨rfl,rfl⟩
 have e2:decide ((i:Int)≥(c.bufs.length:Int))=false:=by simpa using h2
 by_cases h3:loc<0
 ·have e3:decide (loc<0)=true:=by simpa using h3
  have hr:x'u c i loc=0:=by
   unfold x'u
   rw[decide_eq_false (y'e.2 h3)]
   split<;>simp_all
  rw[hr]
  repeat' first|refine vb rfl rfl rfl rfl ?_|refine vs T rfl fun K hK=>?_;(try simp (disch:=omega) only[go_sem,Nat.reduceBEq,Nat.reduceAdd,e1,e2,e3,z'Z]);(refine hK _ _ ?_;clear hK K)|refine st rfl ?_|refine sc rfl ?_|refine nl ?_|refine gs rfl rfl ?_|exact z'n T (z'a _) ⟨rfl,rfl⟩
 have e3:decide (loc<0)=false:=by simpa using h3
 obtain⟨j,rfl⟩: ∃j:Nat,loc=(j:Int):=⟨loc.toNat,by omega⟩
 by_cases h4:(j:Int)≥(c.mem.length:Int)
 ·have e4:decide ((j:Int)≥(c.mem.length:Int))=true:=by simpa using h4
  have hn:c.mem[j]?=none:=z'z (by omega)
  have hr:x'u c i j=0:=by
   unfold x'u
   rw[show((j:Int)).toNat=j from rfl,hn]
   split<;>simp_all
  rw[hr]
  repeat' first|refine vb rfl rfl rfl rfl ?_|refine vs T rfl fun K hK=>?_;(try simp (disch:=omega) only[go_sem,Nat.reduceBEq,Nat.reduceAdd,e1,e2,e3,e4,z'Z,z'k]);(refine hK _ _ ?_;clear hK K)|refine st rfl ?_|refine sc rfl ?_|refine nl ?_|refine gs rfl rfl ?_|exact z'n T (z'a _) ⟨rfl,rfl⟩
 have e4:decide ((j:Int)≥(c.mem.length:Int))=false:=by simpa using h4
 obtain⟨b,hb⟩: ∃b,c.bufs[i]?=some b:=⟨_,z'b (by omega)⟩
 obtain⟨n,hn⟩: ∃n,c.mem[j]?=some n:=⟨_,z'b (by omega)⟩
 have rb:(y'Y c.bufs)[i]?=some [buf b]:=by rw[x'b,hb];rfl
 have rn:(iRs c.mem)[j]?=some [iD n]:=by rw[y'Q,hn];rfl
 have hbl:=hc b (z'h hb)
 have hil:i<c.bufs.length:=by omega
 have hjl:j<c.mem.length:=by omega
 have hr:x'u c i j=(w'9 j b).getD n:=by simp[x'u,hb,hn]
 rw[hr]
 have cl:=ZmR b (by omega) (j:Int)
 cases hl:w'9 (j:Int) b with
 |none=>
  rw[hl]at cl
  have cl':Pure Tryz.prog 99 [buf b,iD (j:Int)] (.tup [iD 0,bD false]):=cl
  repeat' first|refine vb rfl rfl rfl rfl ?_|refine vs T rfl fun K hK=>?_;(try simp (disch:=omega) only[go_sem,Nat.reduceBEq,Nat.reduceAdd,e1,e2,e3,e4,rb,rn,z'Z,z'k]);(first|refine hK _ _ ?_;clear hK K|refine⟨?_,hK _ _ ?_⟩<;>clear hK K;focus(try omega)|refine Op1.callp rfl rfl (cl') rfl ?_;refine hK _ _ ?_;clear hK K)|refine st rfl ?_|refine sc rfl ?_|refine nl ?_|refine gs rfl rfl ?_|exact z'n T (z'a _) ⟨rfl,rfl⟩
 |some v=>
  rw[hl]at cl
  have cl':Pure Tryz.prog 99 [buf b,iD (j:Int)] (.tup [iD v,bD true]):=cl
  repeat' first|refine vb rfl rfl rfl rfl ?_|refine vs T rfl fun K hK=>?_;(try simp (disch:=omega) only[go_sem,Nat.reduceBEq,Nat.reduceAdd,e1,e2,e3,e4,rb,z'Z,z'k]);(first|refine hK _ _ ?_;clear hK K|refine⟨?_,hK _ _ ?_⟩<;>clear hK K;focus(try omega)|refine Op1.callp rfl rfl (cl') rfl ?_;refine hK _ _ ?_;clear hK K)|refine st rfl ?_|refine sc rfl ?_|refine nl ?_|refine gs rfl rfl ?_|exact z'n T (z'a _) ⟨rfl,rfl⟩
def x'H (c:Cf) (m t loc:Int):Bool:=match decide (0≤t),c.bufs[t.toNat]? with
 |true,some b=>(y'T m loc b).2.2
 |_,_=>false
theorem ZfF (c:Cf) (hc:Zf2 c) (m t loc:Int):Pure Tryz.prog 182 [.agg (cfC c),iD m,iD t,iD loc] (bD (x'H c m t loc)):=by
 refine Fun.of T [.tmp 8] Tryz.func182 rfl Tryz.ntmps182 Tryz.results182 rfl (by kernel_rfl) ?_
 by_cases h1:t<0
 ·have e1:decide (t<0)=true:=by simpa using h1
  have hr:x'H c m t loc=false:=by simp[x'H,y'e.2 h1]
  rw[hr]
  repeat' first|refine vb rfl rfl rfl rfl ?_|refine vs T rfl fun K hK=>?_;(try simp (disch:=omega) only[go_sem,Nat.reduceBEq,Nat.reduceAdd,e1]);(refine hK _ _ ?_;clear hK K)|refine st rfl ?_|refine sc rfl ?_|refine nl ?_|refine gs rfl rfl ?_|exact z'n T (z'a _) ⟨rfl,rfl⟩
 have e1:decide (t<0)=false:=by simpa using h1
 obtain⟨i,rfl⟩: ∃i:Nat,t=(i:Int):=⟨t.toNat,by omega⟩
 by_cases h2:(i:Int)≥(c.bufs.length:Int)
 ·have e2:decide ((i:Int)≥(c.bufs.length:Int))=true:=by simpa using h2
  have hn:c.bufs[i]?=none:=z'z (by omega)
  have hr:x'H c m i loc=false:=by simp[x'H,hn]
  rw[hr]
  repeat' first|refine vb rfl rfl rfl rfl ?_|refine vs T rfl fun K hK=>?_;(try simp (disch:=omega) only[go_sem,Nat.reduceBEq,Nat.reduceAdd,e1,e2,z'Z]);(refine hK _ _ ?_;clear hK K)|refine st rfl ?_|refine sc rfl ?_|refine nl ?_|refine gs rfl rfl ?_|exact z'n T (z'a _) ⟨rfl,rfl⟩
 have e2:decide ((i:Int)≥(c.bufs.length:Int))=false:=by simpa using h2
 obtain⟨b,hb⟩: ∃b,c.bufs[i]?=some b:=⟨_,z'b (by omega)⟩
 have rb:(y'Y c.bufs)[i]?=some [buf b]:=by rw[x'b,hb];rfl
 have hbl:=hc b (z'h hb)
 have hil:i<c.bufs.length:=by omega
 have hr:x'H c m i loc=(y'T m loc b).2.2:=by simp[x'H,hb]
 rw[hr]
 have cl:Pure Tryz.prog 183 [buf b,iD m,iD loc] (.tup [buf (y'T m loc b).1,.agg [iD (y'T m loc b).2.1.1,iD (y'T m loc b).2.1.2],bD (y'T m loc b).2.2]):=Zk9 b (by omega) m loc
 repeat' first|refine vb rfl rfl rfl rfl ?_|refine vs T rfl fun K hK=>?_;(try simp (disch:=omega) only[go_sem,Nat.reduceBEq,Nat.reduceAdd,Nat.reduceLeDiff,e1,e2,rb,z'Z]);(first|refine hK _ _ ?_;clear hK K|intro bq hbq;(try simp only[HB]at hbq);refine hK _ _ ?_;clear hK K|refine⟨?_,hK _ _ ?_⟩<;>clear hK K;focus(try omega)|refine Op1.callp rfl rfl (cl) rfl ?_;refine hK _ _ ?_;clear hK K)|refine st rfl ?_|refine sc rfl ?_|refine nl ?_|refine gs rfl rfl ?_|exact z'n T (z'a _) ⟨rfl,rfl⟩
theorem ZcY (c:Cf) (hc:Zf2 c) (m t loc:Int):Pure Tryz.prog 43 [.agg (cfC c),iD m,iD t,iD loc] (bD (x'H c m t loc)):=by
 refine Fun.of T [.tmp 8] Tryz.func43 rfl Tryz.ntmps43 Tryz.results43 rfl (by kernel_rfl) ?_
 by_cases h1:t<0
 ·have e1:decide (t<0)=true:=by simpa using h1
  have hr:x'H c m t loc=false:=by simp[x'H,y'e.2 h1]
  rw[hr]
  repeat' first|refine vb rfl rfl rfl rfl ?_|refine vs T rfl fun K hK=>?_;(try simp (disch:=omega) only[go_sem,Nat.reduceBEq,Nat.reduceAdd,e1]);(refine hK _ _ ?_;clear hK K)|refine st rfl ?_|refine sc rfl ?_|refine nl ?_|refine gs rfl rfl ?_|exact z'n T (z'a _) ⟨rfl,rfl⟩
 have e1:decide (t<0)=false:=by simpa using h1
 obtain⟨i,rfl⟩: ∃i:Nat,t=(i:Int):=⟨t.toNat,by omega⟩
 by_cases h2:(i:Int)≥(c.bufs.length:Int)
 ·have e2:decide ((i:Int)≥(c.bufs.length:Int))=true:=by simpa using h2
  have hn:c.bufs[i]?=none:=z'z (by omega)
  have hr:x'H c m i loc=false:=by simp[x'H,hn]
  rw[hr]
  repeat' first|refine vb rfl rfl rfl rfl ?_|refine vs T rfl fun K hK=>?_;(try simp (disch:=omega) only[go_sem,Nat.reduceBEq,Nat.reduceAdd,e1,e2,z'Z]);(refine hK _ _ ?_;clear hK K)|refine st rfl ?_|refine sc rfl ?_|refine nl ?_|refine gs rfl rfl ?_|exact z'n T (z'a _) ⟨rfl,rfl⟩
 have e2:decide ((i:Int)≥(c.bufs.length:Int))=false:=by simpa using h2
 obtain⟨b,hb⟩: ∃b,c.bufs[i]?=some b:=⟨_,z'b (by omega)⟩
 have rb:(y'Y c.bufs)[i]?=some [buf b]:=by rw[x'b,hb];rfl
 have hbl:=hc b (z'h hb)
 have hil:i<c.bufs.length:=by omega
 have hr:x'H c m i loc=(y'T m loc b).2.2:=by simp[x'H,hb]
 rw[hr]
 have cl:Pure Tryz.prog 71 [buf b,iD m,iD loc] (.tup [buf (y'T m loc b).1,.agg [iD (y'T m loc b).2.1.1,iD (y'T m loc b).2.1.2],bD (y'T m loc b).2.2]):=Zjk b (by omega) m loc
 repeat' first|refine vb rfl rfl rfl rfl ?_|refine vs T rfl fun K hK=>?_;(try simp (disch:=omega) only[go_sem,Nat.reduceBEq,Nat.reduceAdd,Nat.reduceLeDiff,e1,e2,rb,z'Z]);(first|refine hK _ _ ?_;clear hK K|intro bq hbq;(try simp only[HB]at hbq);refine hK _ _ ?_;clear hK K|refine⟨?_,hK _ _ ?_⟩<;>clear hK K;focus(try omega)|refine Op1.callp rfl rfl (cl) rfl ?_;refine hK _ _ ?_;clear hK K)|refine st rfl ?_|refine sc rfl ?_|refine nl ?_|refine gs rfl rfl ?_|exact z'n T (z'a _) ⟨rfl,rfl⟩
theorem ZaT {α:Type} {l:List α} {p:α→Bool} (h: ∀(i:Nat) (x:α),i<l.length→l[i]?=some x→p x=true):l.all p=true:=by
 rw[z'I]
 intro x hx
 obtain⟨i,hi⟩:=y'S hx
 exact h i x (z'c.1 hi).1 hi
theorem v'r {α:Type} {l:List α} {p:α→Bool} {i:Nat} {x:α} (h:l[i]?=some x) (hp:p x=false):l.all p=false:=by
 rw[List.all_eq_false]
 exact⟨x,z'h h,by simp[hp]⟩
theorem Zak {α:Type} {l:List α} {p:α→Bool} {k:Nat} {x:α} (hs: ∀(i:Nat) (y:α),i<k→l[i]?=some y→p y=true) (hx:l[k]?=some x) (hp:p x=true): ∀(i:Nat) (y:α),i<k+1→l[i]?=some y→p y=true:=fun i y hi hy=>by
 rcases z'g i k with h|h
 ·exact hs i y h hy
 ·obtain rfl:i=k:=by omega
  rw[hx]at hy;cases hy;exact hp
def Zbp (c:Cf):Bool:=c.bufs.all fun b=>decide (b.length=0)
theorem Zls (c:Cf) (hn:c.bufs.length≤1000000):Pure Tryz.prog 64 [.agg (cfC c)] (bD (Zbp c)):=by
 refine Fun.of T [.tmp 2] Tryz.func64 rfl Tryz.ntmps64 Tryz.results64 rfl (by kernel_rfl) ?_
 repeat' first|refine vb rfl rfl rfl rfl ?_|refine vs T rfl fun K hK=>?_;(try simp (disch:=omega) only[go_sem]);(refine hK _ _ ?_;clear hK K)|refine st rfl ?_|refine nl ?_
 refine VC.loop {k:Nat//k≤c.bufs.length∧ ∀(i:Nat) (y:List En),i<k→c.bufs[i]?=some y→decide (y.length=0)=true} (fun p=>⟨z'J [(1,.pt (cfC c)),(3,iD (p.1:Nat))],[]⟩) (fun p=>c.bufs.length-p.1) ⟨0,by omega,fun i y hi=>by omega⟩ ?_ ?_
 ·refine Weak.sub ?_
  simp[sub,upd]
 ·rintro⟨k,hk,hs⟩
  dsimp only
  rcases z'g k c.bufs.length with hlt|hge
  ·have hd:decide ((k:Int)<(c.bufs.length:Int))=true:=by simp;omega
   have hw:IntKind.i64.wrap ((k:Int)+1)=((k+1:Nat):Int):=by rw[w64 (by omega)];omega
   obtain⟨b,hb⟩: ∃b,c.bufs[k]?=some b:=⟨_,z'b hlt⟩
   have rb:(y'Y c.bufs)[k]?=some [buf b]:=by rw[x'b,hb];rfl
   by_cases h0:b.length=0
   ·have e0:decide ((b.length:Int)>0)=false:=by rw[h0];rfl
    repeat' first|refine vs T rfl fun K hK=>?_;(try simp (disch:=omega) only[go_sem,Nat.reduceBEq,hd,hw,rb,e0,z'Z,z'A]);(first|refine hK _ _ ?_;clear hK K|refine⟨?_,hK _ _ ?_⟩<;>clear hK K;focus(try omega))|refine st rfl ?_|refine sc rfl ?_|refine nl ?_
    refine⟨⟨k+1,by omega,Zak hs hb (by simpa using h0)⟩,Weak.sub ?_,by simp only[];omega⟩
    simp[sub,upd]
   ·have e0:decide ((b.length:Int)>0)=true:=by simp;omega
    have hr:Zbp c=false:=v'r hb (by simpa using h0)
    rw[hr]
    repeat' first|refine vs T rfl fun K hK=>?_;(try simp (disch:=omega) only[go_sem,Nat.reduceBEq,hd,rb,e0,z'Z,z'A]);(first|refine hK _ _ ?_;clear hK K|refine⟨?_,hK _ _ ?_⟩<;>clear hK K;focus(try omega))|refine st rfl ?_|refine sc rfl ?_|refine nl ?_|exact z'n T (z'a _) ⟨rfl,rfl⟩
  ·have hd:decide ((k:Int)<(c.bufs.length:Int))=false:=by simp;omega
   have hr:Zbp c=true:=ZaT fun i x hi hx=>hs i x (by omega) hx
   rw[hr]
   repeat' first|refine vs T rfl fun K hK=>?_;(try simp (disch:=omega) only[go_sem,Nat.reduceBEq,hd,z'Z]);(refine hK _ _ ?_;clear hK K)|refine st rfl ?_|refine sc rfl ?_|refine nl ?_|exact z'n T (z'a _) ⟨rfl,rfl⟩
end Go.Proofs.YtfneeacgkdhldaaGreat
