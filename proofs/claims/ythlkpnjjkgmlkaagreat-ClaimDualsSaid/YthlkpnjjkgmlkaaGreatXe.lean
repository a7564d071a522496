/- Units and configurations; what a thread reads. No condition. -/
import Derived.Test.YthlkpnjjkgmlkaaGreatXc
namespace Go.Proofs.YthlkpnjjkgmlkaaGreat
set_option maxHeartbeats 16000000
set_option linter.unusedSimpArgs false
set_option linter.unusedVariables false
set_option maxRecDepth 20000
open Go Go.Proofs Go.Vc
attribute [local irreducible] x'v VCg VCw VCx
abbrev Opc:=Int×Int×Int
def opR (x:Opc):List D:=[iD x.1,iD x.2.1,iD x.2.2]
def w'l (l:List Opc):List (List D):=l.map opR
abbrev z'S (l:List Opc):D:= .sl false 3 (w'l l)
structure Ins where
 op:Int
 reg:Int
 loc:Int
 e:List Opc
 f:List Opc
 ne:Bool
 to:Int
def insR (x:Ins):List D:=[iD x.op,iD x.reg,iD x.loc,z'S x.e,z'S x.f,bD x.ne,iD x.to]
def y'I (l:List Ins):List (List D):=l.map insR
def w'A (c:List (List Ins)):List (List D):=c.map fun l=>[.sl false 7 (y'I l)]
structure Un where
 md:Int
 init:List Int
 regs:List Int
 code:List (List Ins)
abbrev unC (u:Un):List D:=[iD u.md,y'r u.init,y'r u.regs,.sl false 1 (w'A u.code)]
def w'y (l:List (List Int)):List (List D):=l.map fun r=>[y'r r]
def w'o (l:List (List En)):List (List D):=l.map fun b=>[buf b]
structure Cf where
 pc:List Int
 regs:List (List Int)
 mem:List Int
 bufs:List (List En)
abbrev cfC (c:Cf):List D:=[y'r c.pc,.sl false 1 (w'y c.regs),y'r c.mem,.sl false 1 (w'o c.bufs)]
theorem z'C (l:List Opc):(w'l l).length=l.length:=z'm ..
theorem Zdl (l:List Opc) (i:Nat):(w'l l)[i]?=(l[i]?).map opR:=y'c ..
theorem z'4 (l:List Ins):(y'I l).length=l.length:=z'm ..
theorem w'e (l:List Ins) (i:Nat):(y'I l)[i]?=(l[i]?).map insR:=y'c ..
theorem z'V (l:List (List Ins)):(w'A l).length=l.length:=z'm ..
theorem x'6 (l:List (List Ins)) (i:Nat):(w'A l)[i]?=(l[i]?).map fun l=>[.sl false 7 (y'I l)]:=y'c ..
theorem y'C (l:List (List Int)):(w'y l).length=l.length:=z'm ..
theorem v'3 (l:List (List Int)) (i:Nat):(w'y l)[i]?=(l[i]?).map fun r=>[y'r r]:=y'c ..
theorem y'm (l:List (List En)):(w'o l).length=l.length:=z'm ..
theorem x'P (l:List (List En)) (i:Nat):(w'o l)[i]?=(l[i]?).map fun b=>[buf b]:=y'c ..
def Zp1 (c:Cf):Prop:= ∀b,b∈c.bufs→b.length≤1000
def w'p (c:Cf) (t loc:Int):Int:=match decide (0≤t),c.bufs[t.toNat]?,decide (0≤loc),c.mem[loc.toNat]? with
 |true,some b,true,some n=>(v'9 loc b).getD n
 |_,_,_,_=>0
theorem Zj7 (c:Cf) (hc:Zp1 c) (t loc:Int):Pure Tryz.prog 208 [.agg (cfC c),iD t,iD loc] (iD (w'p c t loc)):=by
 refine Fun.of T [.tmp 6] Tryz.func208 rfl Tryz.ntmps208 Tryz.results208 rfl (by kernel_rfl) ?_
 by_cases h1:t<0
 ·have e1:decide (t<0)=true:=by simpa using h1
  have hr:w'p c t loc=0:=by simp[w'p,y'b.2 h1]
  rw[hr]
  repeat' first|refine vb rfl rfl rfl rfl ?_|refine mq1 @e1 ?_|exact z'p T (z'a _) ⟨rfl,rfl⟩|fail
 have e1:decide (t<0)=false:=by simpa using h1
 obtain⟨i,rfl⟩: ∃i:Nat,t=(i:Int):=⟨t.toNat,by omega⟩
 by_cases h2:(i:Int)≥(c.bufs.length:Int)
 ·have e2:decide ((i:Int)≥(c.bufs.length:Int))=true:=by simpa using h2
  have hn:c.bufs[i]?=none:=z'M (by omega)
  have hr:w'p c i loc=0:=by simp[w'p,hn]
  rw[hr]
  repeat' first|refine vb rfl rfl rfl rfl ?_|refine mq1 (x'i @e1 @e2 @y'm) ?_|exact z'p T (z'a _) ⟨rfl,rfl⟩|fail
 have e2:decide ((i:Int)≥(c.bufs.length:Int))=false:=by simpa using h2
 by_cases h3:loc<0
 ·have e3:decide (loc<0)=true:=by simpa using h3
  have hr:w'p c i loc=0:=by
   unfold w'p
   rw[decide_eq_false (y'b.2 h3)]
   split<;>simp_all
  rw[hr]
  repeat' first|refine vb rfl rfl rfl rfl ?_|refine mq1 (x'f @e1 @e2 @e3 @y'm) ?_|exact z'p T (z'a _) ⟨rfl,rfl⟩|fail
 have e3:decide (loc<0)=false:=by simpa using h3
 obtain⟨j,rfl⟩: ∃j:Nat,loc=(j:Int):=⟨loc.toNat,by omega⟩
 by_cases h4:(j:Int)≥(c.mem.length:Int)
 ·have e4:decide ((j:Int)≥(c.mem.length:Int))=true:=by simpa using h4
  have hn:c.mem[j]?=none:=z'M (by omega)
  have hr:w'p c i j=0:=by
   unfold w'p
   rw[show((j:Int)).toNat=j from rfl,hn]
   split<;>simp_all
  rw[hr]
  repeat' first|refine vb rfl rfl rfl rfl ?_|refine mq1 (x'V @e1 @e2 @e3 @e4 @y'm @z'o) ?_|exact z'p T (z'a _) ⟨rfl,rfl⟩|fail
 have e4:decide ((j:Int)≥(c.mem.length:Int))=false:=by simpa using h4
 obtain⟨b,hb⟩: ∃b,c.bufs[i]?=some b:=⟨_,z'c (by omega)⟩
 obtain⟨n,hn⟩: ∃n,c.mem[j]?=some n:=⟨_,z'c (by omega)⟩
 have rb:(w'o c.bufs)[i]?=some [buf b]:=by rw[x'P,hb];rfl
 have rn:(iRs c.mem)[j]?=some [iD n]:=by rw[x'q,hn];rfl
 have hbl:=hc b (z'l hb)
 have hil:i<c.bufs.length:=by omega
 have hjl:j<c.mem.length:=by omega
 have hr:w'p c i j=(v'9 j b).getD n:=by simp[w'p,hb,hn]
 rw[hr]
 have cl:=ZrA b (by omega) (j:Int)
 cases hl:v'9 (j:Int) b with
 |none=>
  rw[hl]at cl
  have cl':Pure Tryz.prog 255 [buf b,iD (j:Int)] (.tup [iD 0,bD false]):=cl
  repeat' first|refine vb rfl rfl rfl rfl ?_|refine mq2 (Za1 @e1 @e2 @e3 @e4 @rb @rn @y'm @z'o) cl' ?_|refine .wk ?_ ?_;focus(try omega)|exact z'p T (z'a _) ⟨rfl,rfl⟩|fail
 |some v=>
  rw[hl]at cl
  have cl':Pure Tryz.prog 255 [buf b,iD (j:Int)] (.tup [iD v,bD true]):=cl
  repeat' first|refine vb rfl rfl rfl rfl ?_|refine mq2 (v'p @e1 @e2 @e3 @e4 @rb @y'm @z'o) cl' ?_|refine .wk ?_ ?_;focus(try omega)|exact z'p T (z'a _) ⟨rfl,rfl⟩|fail
def w'K (c:Cf) (m t loc:Int):Bool:=match decide (0≤t),c.bufs[t.toNat]? with
 |true,some b=>(x'R m loc b).2.2
 |_,_=>false
theorem Zeq (c:Cf) (hc:Zp1 c) (m t loc:Int):Pure Tryz.prog 206 [.agg (cfC c),iD m,iD t,iD loc] (bD (w'K c m t loc)):=by
 refine Fun.of T [.tmp 8] Tryz.func206 rfl Tryz.ntmps206 Tryz.results206 rfl (by kernel_rfl) ?_
 by_cases h1:t<0
 ·have e1:decide (t<0)=true:=by simpa using h1
  have hr:w'K c m t loc=false:=by simp[w'K,y'b.2 h1]
  rw[hr]
  repeat' first|refine vb rfl rfl rfl rfl ?_|refine mq1 @e1 ?_|exact z'p T (z'a _) ⟨rfl,rfl⟩|fail
 have e1:decide (t<0)=false:=by simpa using h1
 obtain⟨i,rfl⟩: ∃i:Nat,t=(i:Int):=⟨t.toNat,by omega⟩
 by_cases h2:(i:Int)≥(c.bufs.length:Int)
 ·have e2:decide ((i:Int)≥(c.bufs.length:Int))=true:=by simpa using h2
  have hn:c.bufs[i]?=none:=z'M (by omega)
  have hr:w'K c m i loc=false:=by simp[w'K,hn]
  rw[hr]
  repeat' first|refine vb rfl rfl rfl rfl ?_|refine mq1 (x'i @e1 @e2 @y'm) ?_|exact z'p T (z'a _) ⟨rfl,rfl⟩|fail
 have e2:decide ((i:Int)≥(c.bufs.length:Int))=false:=by simpa using h2
 obtain⟨b,hb⟩: ∃b,c.bufs[i]?=some b:=⟨_,z'c (by omega)⟩
 have rb:(w'o c.bufs)[i]?=some [buf b]:=by rw[x'P,hb];rfl
 have hbl:=hc b (z'l hb)
 have hil:i<c.bufs.length:=by omega
 have hr:w'K c m i loc=(x'R m loc b).2.2:=by simp[w'K,hb]
 rw[hr]
 have cl:Pure Tryz.prog 210 [buf b,iD m,iD loc] (.tup [buf (x'R m loc b).1,.agg [iD (x'R m loc b).2.1.1,iD (x'R m loc b).2.1.2],bD (x'R m loc b).2.2]):=Znw b (by omega) m loc
 repeat' first|refine vb rfl rfl rfl rfl ?_|refine mq2 (x'f @e1 @e2 @rb @y'm) cl ?_|refine mqn fun bq hbq=>?_|refine .wk ?_ ?_;focus(try omega)|exact z'p T (z'a _) ⟨rfl,rfl⟩|fail
theorem HRel.cut {w:World} {L:Nat→Prop} {b n k:Nat} {ty:TypeId} {l:List D} (h:HRel w L b (.cells ty n l)):HRel w L b (.cells ty n (l.take k)):=by
 obtain⟨h1,arr,h2,h3,h4⟩:=h
 refine⟨Zbv h1 k,arr,h2,h3,?_⟩
 have:=RelL.take k _ _ h4
 rw[List.take_take]at this
 rwa [z'L]
theorem Weak.cut {env:Nat→D} {g:Option (Nat×Nat)} {e:TypeId} {esz k:Nat} {l:List D} {X:Heap}:Weak ⟨env,shp g e esz l X⟩ ⟨env,shp g e esz (l.take k) X⟩:=fun x a w h=>by
 cases g with
 |none=>exact h
 |some p=>
  obtain⟨b,cap⟩:=p
  have hbl:(shp (some (b,cap)) e esz (l.take k) X).blocks=(shp (some (b,cap)) e esz l X).blocks:=rfl
  have hlv:live (shp (some (b,cap)) e esz (l.take k) X) x.L0=live (shp (some (b,cap)) e esz l X) x.L0:=by
   funext b'
   simp only[live,hbl]
  refine{env:=fun t=>by rw[hlv];exact h.env t,inv:=?_,evo:=?_,defers:=h.defers,size:=h.size}
  ·refine{rel:=fun b' c hm=>?_,nodup:=by rw[hbl];exact h.inv.nodup,apart:=fun b' hb=>h.inv.apart b' (by rw[←hbl];exact hb),old:=h.inv.old}
   rw[hlv]
   rcases z'F.1 hm with hm|hm
   ·cases hm
    exact HRel.cut (h.inv.rel b _ (z'z ..))
   ·exact h.inv.rel b' c (z'd _ hm)
  ·exact⟨h.evo.os,h.evo.tape,h.evo.output,h.evo.size,h.evo.block,fun b' hb=>h.evo.fresh b' (by rw[←hbl];exact hb)⟩
def x'I (u:Un) (c:Cf) (t:Int):Bool:=match decide (0≤t),u.code[t.toNat]?,c.pc[t.toNat]? with
 |true,some r,some p=>(match decide (0≤p),r[p.toNat]? with|true,some x=>x.op == 22|_,_=>false)
 |_,_,_=>false
theorem ZpO (u:Un) (c:Cf) (t:Int):Pure Tryz.prog 85 [.agg (unC u),.agg (cfC c),iD t] (bD (x'I u c t)):=by
 refine Fun.of T [.tmp 6] Tryz.func85 rfl Tryz.ntmps85 Tryz.results85 rfl (by kernel_rfl) ?_
 by_cases h1:t<0
 ·have e1:decide (t<0)=true:=by simpa using h1
  have hr:x'I u c t=false:=by simp[x'I,y'b.2 h1]
  rw[hr]
  repeat' first|refine vb rfl rfl rfl rfl ?_|refine dr (id:=1) T 36 (by kernel_rfl) ?_|(apply VCg.step T rfl rfl);focus((try simp (disch:=omega) only[go_sem,Nat.reduceBEq,e1]);(exact rfl))|refine VCg.gstep T rfl rfl rfl rfl ?_;try simp only[GB]|refine mq0 ?_|exact z'p T (z'a _) ⟨rfl,rfl⟩|fail
 have e1:decide (t<0)=false:=by simpa using h1
 obtain⟨i,rfl⟩: ∃i:Nat,t=(i:Int):=⟨t.toNat,by omega⟩
 by_cases h2:(i:Int)≥(u.code.length:Int)
 ·have e2:decide ((i:Int)≥(u.code.length:Int))=true:=by simpa using h2
  have hn:u.code[i]?=none:=z'M (by omega)
  have hr:x'I u c i=false:=by simp[x'I,hn]
  rw[hr]
  repeat' first|refine vb rfl rfl rfl rfl ?_|refine dr (id:=1) T 36 (by kernel_rfl) ?_|(first|apply VCg.step T rfl rfl|apply exF);focus((try simp (disch:=omega) only[go_sem,Nat.reduceBEq,e1,e2,z'V]);(exact rfl))|refine VCg.gstep T rfl rfl rfl rfl ?_;try simp only[GB]|refine mq0 ?_|exact z'p T (z'a _) ⟨rfl,rfl⟩|fail
 have e2:decide ((i:Int)≥(u.code.length:Int))=false:=by simpa using h2
 by_cases h3:(i:Int)≥(c.pc.length:Int)
 ·have e3:decide ((i:Int)≥(c.pc.length:Int))=true:=by simpa using h3
  have hn:c.pc[i]?=none:=z'M (by omega)
  have hr:x'I u c i=false:=by
   unfold x'I
   rw[show((i:Int)).toNat=i from rfl,hn]
   split<;>simp_all
  rw[hr]
  repeat' first|refine vb rfl rfl rfl rfl ?_|refine dr (id:=1) T 36 (by kernel_rfl) ?_|(first|apply VCg.step T rfl rfl|apply exF);focus((try simp (disch:=omega) only[go_sem,Nat.reduceBEq,e1,e2,e3,z'V,z'o]);(exact rfl))|refine VCg.gstep T rfl rfl rfl rfl ?_;try simp only[GB]|refine mq0 ?_|exact z'p T (z'a _) ⟨rfl,rfl⟩|fail
 have e3:decide ((i:Int)≥(c.pc.length:Int))=false:=by simpa using h3
 have hil:i<u.code.length:=by omega
 have hip:i<c.pc.length:=by omega
 obtain⟨r,hr⟩: ∃r,u.code[i]?=some r:=⟨_,z'c hil⟩
 obtain⟨p,hp⟩: ∃p,c.pc[i]?=some p:=⟨_,z'c hip⟩
 have rr:(w'A u.code)[i]?=some [.sl false 7 (y'I r)]:=by rw[x'6,hr];rfl
 have rp:(iRs c.pc)[i]?=some [iD p]:=by rw[x'q,hp];rfl
 by_cases h4:p<0
 ·have e4:decide (p<0)=true:=by simpa using h4
  have hE:x'I u c i=false:=by simp[x'I,hr,hp,y'b.2 h4]
  rw[hE]
  repeat' first|refine vb rfl rfl rfl rfl ?_|refine dr (id:=1) T 36 (by kernel_rfl) ?_|(first|apply VCg.step T rfl rfl|apply exF);focus((try simp (disch:=omega) only[go_sem,Nat.reduceBEq,e1,e2,e3,e4,rp,z'V,z'o]);(first|exact rfl|refine⟨?_,rfl⟩;try omega))|refine VCg.gstep T rfl rfl rfl rfl ?_;try simp only[GB]|refine mq0 ?_|exact z'p T (z'a _) ⟨rfl,rfl⟩|fail
 have e4:decide (p<0)=false:=by simpa using h4
 obtain⟨q,rfl⟩: ∃q:Nat,p=(q:Int):=⟨p.toNat,by omega⟩
 by_cases h5:(q:Int)≥(r.length:Int)
 ·have e5:decide ((q:Int)≥(r.length:Int))=true:=by simpa using h5
  have hn:r[q]?=none:=z'M (by omega)
  have hE:x'I u c i=false:=by simp[x'I,hr,hp,hn]
  rw[hE]
  repeat' first|refine vb rfl rfl rfl rfl ?_|refine dr (id:=1) T 36 (by kernel_rfl) ?_|(first|apply VCg.step T rfl rfl|apply exF);focus((try simp (disch:=omega) only[go_sem,Nat.reduceBEq,e1,e2,e3,e4,rr,rp,z'V,z'o,z'4]);(first|exact rfl|refine⟨?_,rfl⟩;try omega))|refine VCg.gstep T rfl rfl rfl rfl ?_;try simp only[GB]|refine mq1 @e5 ?_|exact z'p T (z'a _) ⟨rfl,rfl⟩|fail
 have e5:decide ((q:Int)≥(r.length:Int))=false:=by simpa using h5
 have hql:q<r.length:=by omega
 obtain⟨x,hx⟩: ∃x,r[q]?=some x:=⟨_,z'c hql⟩
 have rx:(y'I r)[q]?=some [iD x.op,iD x.reg,iD x.loc,z'S x.e,z'S x.f,bD x.ne,iD x.to]:=by rw[w'e,hx];rfl
 have hE:x'I u c i=(x.op == 22):=by simp[x'I,hr,hp,hx]
 rw[hE]
 repeat' first|refine vb rfl rfl rfl rfl ?_|refine dr (id:=1) T 36 (by kernel_rfl) ?_|refine dr (id:=3) T 10 (by kernel_rfl) ?_|(first|apply VCg.step T rfl rfl|apply exF);focus((try simp (disch:=omega) only[go_sem,Nat.reduceBEq,e1,e2,e3,e4,rr,rp,z'V,z'o,z'4]);(first|exact rfl|refine⟨?_,rfl⟩;try omega))|refine VCg.gstep T rfl rfl rfl rfl ?_;try simp only[GB]|refine mq1 (x'i @e5 @rx @z'4) ?_|refine .wk ?_ ?_;focus(try omega)|exact z'p T (z'a _) ⟨rfl,rfl⟩|fail
end Go.Proofs.YthlkpnjjkgmlkaaGreat
