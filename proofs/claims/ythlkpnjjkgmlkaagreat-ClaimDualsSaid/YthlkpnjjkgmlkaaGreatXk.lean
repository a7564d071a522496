/- Contracts: whether code can be (how many numbers lie there). No condition. -/
import Derived.Test.YthlkpnjjkgmlkaaGreatXe
import Derived.Test.YthlkpnjjkgmlkaaGreatXf
namespace Go.Proofs.YthlkpnjjkgmlkaaGreat
set_option maxHeartbeats 16000000
set_option linter.unusedSimpArgs false
set_option linter.unusedVariables false
set_option maxRecDepth 20000
open Go Go.Proofs Go.Vc
attribute [local irreducible] x'v VCg VCw VCx
def y'v (op:Int) (n:Int):Option Int:=
 if 1≤op∧op≤4 then some (n+1)else if op=5∧1≤n then some n else if (6≤op∧op≤14)∧2≤n then some (n-1)else none
def w'i:List Opc→Int→Int→Option (Int×Int)
 |[],n,most=>some (n,most)
 |x::r,n,most=>match y'v x.1 n with
  |some n'=>w'i r n' (max most n')
  |none=>none
theorem ZfC {P:Program} {o:Oper} {E:Operand→D} {H:Heap} {K:D→Heap→Prop} {x y:Operand} {ts:Array TypeId} {k:IntKind} {a b:Int} (ho:o.op= .call ⟨.builtin .max, #[x,y],ts⟩) (ha:E x= .is (.int k a)) (hb:E y= .is (.int k b)) (hk:K (.is (.int k (max a b))) H):Op1 P o E H K:=by
 refine Op1.value (d:= .is (.int k (max a b))) (fun w L0 ε hi hx=>?_) hk
 have h1:=hx x (by simp[ho,Op.operands,Call.operands])
 have h2:=hx y (by simp[ho,Op.operands,Call.operands])
 rw[ha]at h1;rw[hb]at h2
 have h1':ε x= .int k a:=h1
 have h2':ε y= .int k b:=h2
 refine⟨.int k (max a b),?_,rfl⟩
 simp only[execOp,ho,resolve,invoke,builtin]
 simp[go_sem,h1',h2',Builtin.max_,Builtin.max2]
 split<;>omega
theorem Zb1 (x:Opc) (r:List Opc) (n most:Int):w'i (x::r) n most=(match y'v x.1 n with|some n'=>w'i r n' (max most n')|none=>none):=rfl
def Zr4 (o:Option (Int×Int)):D:=match o with|some p=> .tup [iD p.1,iD p.2]|none=> .tup [iD (-1),iD (-1)]
theorem Zpx (l:List Opc) (hl:l.length≤1000):Pure Tryz.prog 88 [z'S l] (Zr4 (w'i l 0 0)):=by
 refine Fun.of T [.tmp 2,.tmp 3] Tryz.func88 rfl Tryz.ntmps88 Tryz.results88 rfl (by kernel_rfl) ?_
 repeat' first|refine mq0 ?_|fail
 refine VC.loop {q:Nat×Int×Int//q.1≤l.length∧(0≤q.2.1∧q.2.1≤q.1)∧(0≤q.2.2∧q.2.2≤q.1)∧w'i l 0 0=w'i (l.drop q.1) q.2.1 q.2.2} (fun q=>⟨z'T [(0,z'S l),(4,iD q.1.2.1),(5,iD q.1.2.2),(6,iD (q.1.1:Nat))],[]⟩) (fun q=>l.length-q.1.1) ⟨(0,0,0),by simp⟩ ?_ ?_
 ·refine Weak.sub ?_
  simp[sub,upd]
 ·rintro⟨⟨k,n,most⟩,hk,hn,hm,hF⟩
  dsimp only at hk hn hm hF⊢
  rcases z'i k l.length with hlt|hge
  ·have hd:decide ((k:Int)<(l.length:Int))=true:=by simp;omega
   have hw:IntKind.i64.wrap ((k:Int)+1)=((k+1:Nat):Int):=by rw[w64 (by omega)];omega
   have wa:IntKind.i64.wrap (n+1)=n+1:=by rw[w64 (by omega)]
   have ws:IntKind.i64.wrap (n-1)=n-1:=by rw[w64 (by omega)]
   obtain⟨x,hx⟩: ∃x,l[k]?=some x:=⟨_,z'c hlt⟩
   have hrow:(w'l l)[k]?=some [iD x.1,iD x.2.1,iD x.2.2]:=by rw[Zdl,hx];rfl
   have hdr:l.drop k=x::l.drop (k+1):=by rw[x'x hlt];congr 1;exact z'O ((z'c hlt).symm.trans hx)
   rw[hdr,Zb1]at hF
   have nxt: ∀n',y'v x.1 n=some n'→0≤n'→n'≤n+1→ ∀E:Nat→D,Vc.sub E [(0,z'S l),(4,iD n'),(5,iD (max most n')),(6,iD ((k+1:Nat):Int))]→
     ∃q':{q:Nat×Int×Int//q.1≤l.length∧(0≤q.2.1∧q.2.1≤q.1)∧(0≤q.2.2∧q.2.2≤q.1)∧w'i l 0 0=w'i (l.drop q.1) q.2.1 q.2.2},Weak ⟨E,[]⟩ ⟨z'T [(0,z'S l),(4,iD q'.1.2.1),(5,iD q'.1.2.2),(6,iD (q'.1.1:Nat))],[]⟩∧l.length-q'.1.1<l.length-k:=by
    intro n' hs h0 h1 E hE
    rw[hs]at hF
    exact⟨⟨(k+1,n',max most n'),by simp only[];omega,by simp only[];omega,by simp only[];omega,hF⟩,Weak.sub hE,by simp only[];omega⟩
   by_cases c1:1≤x.1∧x.1≤4
   ·have a1:decide (x.1≥1)=true:=by simp;omega
    have a4:decide (x.1≤4)=true:=by simp;omega
    repeat' first|refine mq1 (v'p @hd @hw @wa @hrow @a1 @a4 @z'C) ?_|refine .wk ?_ ?_;focus(try omega)|refine vs T rfl fun K hK=>?_;(try simp (disch:=omega) only[go_sem,Nat.reduceBEq,hd,hw,wa,hrow,a1,a4,z'C]);(first|refine ZfC rfl rfl rfl ?_;refine hK _ _ ?_;clear hK K)|fail
    refine nxt (n+1) (by simp[y'v,c1]) (by omega) (by omega) _ ?_
    simp[sub,upd]
   have hbad:y'v x.1 n=none→w'i l 0 0=none:=fun h=>by rw[h]at hF;exact hF
   rcases Int.lt_or_le x.1 1 with h1|h1
   ·have a1:decide (x.1≥1)=false:=by simp;omega
    have e5:(x.1 == 5)=false:=by rw[beq_eq_false_iff_ne];omega
    have b6:decide (x.1≥6)=false:=by simp;omega
    have hs:y'v x.1 n=none:=by unfold y'v;rw[if_neg c1,if_neg (by omega),if_neg (by omega)]
    rw[hbad hs]
    repeat' first|refine mq1 (x'V @hd @hrow @a1 @e5 @b6 @z'C) ?_|refine .wk ?_ ?_;focus(try omega)|exact y'B T (z'a _) ⟨rfl,rfl⟩|fail
    all_goals rfl
   have a1:decide (x.1≥1)=true:=by simp;omega
   have a4:decide (x.1≤4)=false:=by simp;omega
   by_cases c5:x.1=5
   ·have e5:(x.1 == 5)=true:=by simpa using c5
    have b6:decide (x.1≥6)=false:=by simp;omega
    by_cases cn:1≤n
    ·have n1:decide (n≥1)=true:=by simp;omega
     repeat' first|refine mq1 (Za1 @hd @hw @hrow @a1 @a4 @e5 @n1 @z'C) ?_|refine .wk ?_ ?_;focus(try omega)|refine vs T rfl fun K hK=>?_;(try simp (disch:=omega) only[go_sem,Nat.reduceBEq,hd,hw,hrow,a1,a4,e5,n1,z'C]);(first|refine ZfC rfl rfl rfl ?_;refine hK _ _ ?_;clear hK K)|fail
     refine nxt n (by unfold y'v;rw[if_neg c1,if_pos ⟨c5,cn⟩]) (by omega) (by omega) _ ?_
     simp[sub,upd]
    ·have n1:decide (n≥1)=false:=by simp;omega
     have hs:y'v x.1 n=none:=by unfold y'v;rw[if_neg c1,if_neg (by omega),if_neg (by omega)]
     rw[hbad hs]
     repeat' first|refine mq1 (Za1 @hd @hrow @a1 @a4 @e5 @n1 @b6 @z'C) ?_|refine .wk ?_ ?_;focus(try omega)|exact y'B T (z'a _) ⟨rfl,rfl⟩|fail
     all_goals rfl
   have e5:(x.1 == 5)=false:=by simpa using c5
   have b6:decide (x.1≥6)=true:=by simp;omega
   by_cases c14:x.1≤14
   ·have b14:decide (x.1≤14)=true:=by simpa using c14
    by_cases cn:2≤n
    ·have n2:decide (n≥2)=true:=by simp;omega
     repeat' first|refine mq1 (Zdc @hd @hw @ws @hrow @a1 @a4 @e5 @b6 @b14 @n2 @z'C) ?_|refine .wk ?_ ?_;focus(try omega)|refine vs T rfl fun K hK=>?_;(try simp (disch:=omega) only[go_sem,Nat.reduceBEq,hd,hw,ws,hrow,a1,a4,e5,b6,b14,n2,z'C]);(first|refine ZfC rfl rfl rfl ?_;refine hK _ _ ?_;clear hK K)|fail
     refine nxt (n-1) (by unfold y'v;rw[if_neg c1,if_neg (by omega),if_pos ⟨by omega,cn⟩]) (by omega) (by omega) _ ?_
     simp[sub,upd]
    ·have n2:decide (n≥2)=false:=by simp;omega
     have hs:y'v x.1 n=none:=by unfold y'v;rw[if_neg c1,if_neg (by omega),if_neg (by omega)]
     rw[hbad hs]
     repeat' first|refine mq1 (v'1 @hd @hrow @a1 @a4 @e5 @b6 @b14 @n2 @z'C) ?_|refine .wk ?_ ?_;focus(try omega)|exact y'B T (z'a _) ⟨rfl,rfl⟩|fail
     all_goals rfl
   ·have b14:decide (x.1≤14)=false:=by simpa using c14
    have hs:y'v x.1 n=none:=by unfold y'v;rw[if_neg c1,if_neg (by omega),if_neg (by omega)]
    rw[hbad hs]
    repeat' first|refine mq1 (Za1 @hd @hrow @a1 @a4 @e5 @b6 @b14 @z'C) ?_|refine .wk ?_ ?_;focus(try omega)|exact y'B T (z'a _) ⟨rfl,rfl⟩|fail
    all_goals rfl
  ·have hd:decide ((k:Int)<(l.length:Int))=false:=by simp;omega
   rw[y'T hge]at hF
   rw[hF]
   repeat' first|refine mq1 (z'X @hd @z'C) ?_|exact y'B T (z'a _) ⟨rfl,rfl⟩|fail
   all_goals rfl
def y'y (rs:List Int) (own locs:Int) (x:Opc):Bool:=
 if x.1=1 then inB x.2.1 10000 else if x.1=2 then inB x.2.1 own else if x.1=3 then inB x.2.1 locs
 else if x.1=4 then inB x.2.2 rs.length&&inB x.2.1 ((rs[x.2.2.toNat]?).getD 0)else true
def oneL (o:Option (Int×Int)):Bool:=match o with|some p=>p.1 == 1|none=>false
def y'G (l:List Opc) (rs:List Int) (own locs:Int):Bool:=(l.all (y'y rs own locs))&&oneL (w'i l 0 0)
theorem y'7 (l:List Opc) (hl:l.length≤1000) (rs:List Int) (hrs:rs.length≤1000) (own locs:Int):Pure Tryz.prog 37 [z'S l,y'r rs,iD own,iD locs] (bD (y'G l rs own locs)):=by
 refine Fun.of T [.tmp 8] Tryz.func37 rfl Tryz.ntmps37 Tryz.results37 rfl (by kernel_rfl) ?_
 repeat' first|refine mq0 ?_|fail
 refine VC.loop {k:Nat//k≤l.length∧ ∀(i:Nat) (y:Opc),i<k→l[i]?=some y→y'y rs own locs y=true} (fun p=>⟨z'T [(0,z'S l),(1,y'r rs),(2,iD own),(3,iD locs),(9,iD (p.1:Nat))],[]⟩) (fun p=>l.length-p.1) ⟨0,by omega,fun i y hi=>by omega⟩ ?_ ?_
 ·refine Weak.sub ?_
  simp[sub,upd]
 ·rintro⟨k,hk,hs⟩
  dsimp only
  rcases z'i k l.length with hlt|hge
  ·have hd:decide ((k:Int)<(l.length:Int))=true:=by simp;omega
   have hw:IntKind.i64.wrap ((k:Int)+1)=((k+1:Nat):Int):=by rw[w64 (by omega)];omega
   obtain⟨x,hx⟩: ∃x,l[k]?=some x:=⟨_,z'c hlt⟩
   have hrow:(w'l l)[k]?=some [iD x.1,iD x.2.1,iD x.2.2]:=by rw[Zdl,hx];rfl
   have nxt:y'y rs own locs x=true→ ∀{H:Heap} (E:Nat→D),Vc.sub E [(0,z'S l),(1,y'r rs),(2,iD own),(3,iD locs),(9,iD ((k+1:Nat):Int))]→
     ∃k':{k:Nat//k≤l.length∧ ∀(i:Nat) (y:Opc),i<k→l[i]?=some y→y'y rs own locs y=true},Weak ⟨E,H⟩ ⟨z'T [(0,z'S l),(1,y'r rs),(2,iD own),(3,iD locs),(9,iD (k'.1:Nat))],[]⟩∧l.length-k'.1<l.length-k:=
    fun h H E hE=>⟨⟨k+1,by omega,Zah hs hx h⟩,Weak.subH (z'a _) hE,by simp only[];omega⟩
   have bad:y'y rs own locs x=false→y'G l rs own locs=false:=fun h=>by
    unfold y'G
    rw[v'k hx h];rfl
   by_cases h1:x.1=1
   ·have e1:(x.1 == 1)=true:=by simpa using h1
    cases hv:inB x.2.1 10000 with
    |true=>
     have hok:y'y rs own locs x=true:=by simp[y'y,h1,hv]
     repeat' first|refine mq2 (x'V @hd @hw @hrow @z'C @e1 @hv) (v'B · ·) ?_|refine mqn fun bq hbq=>?_|refine .wk ?_ ?_;focus(try omega)|fail
     refine nxt hok _ ?_
     simp[sub,upd]
    |false=>
     have hok:y'y rs own locs x=false:=by simp[y'y,h1,hv]
     rw[bad hok]
     repeat' first|refine mq2 (y'Z @hd @hrow @z'C @e1 @hv) (v'B · ·) ?_|refine mqn fun bq hbq=>?_|refine .wk ?_ ?_;focus(try omega)|exact z'p T (z'a _) ⟨rfl,rfl⟩|fail
   have e1:(x.1 == 1)=false:=by simpa using h1
   by_cases h2:x.1=2
   ·have e2:(x.1 == 2)=true:=by simpa using h2
    cases hv:inB x.2.1 own with
    |true=>
     have hok:y'y rs own locs x=true:=by simp[y'y,h2,hv]
     repeat' first|refine mq2 (v'p @hd @hw @hrow @z'C @e1 @e2 @hv) (v'B · ·) ?_|refine mqn fun bq hbq=>?_|refine .wk ?_ ?_;focus(try omega)|fail
     refine nxt hok _ ?_
     simp[sub,upd]
    |false=>
     have hok:y'y rs own locs x=false:=by simp[y'y,h2,hv]
     rw[bad hok]
     repeat' first|refine mq2 (x'V @hd @hrow @z'C @e1 @e2 @hv) (v'B · ·) ?_|refine mqn fun bq hbq=>?_|refine .wk ?_ ?_;focus(try omega)|exact z'p T (z'a _) ⟨rfl,rfl⟩|fail
   have e2:(x.1 == 2)=false:=by simpa using h2
   by_cases h3:x.1=3
   ·have e3:(x.1 == 3)=true:=by simpa using h3
    cases hv:inB x.2.1 locs with
    |true=>
     have hok:y'y rs own locs x=true:=by simp[y'y,h3,hv]
     repeat' first|refine mq2 (Za1 @hd @hw @hrow @z'C @e1 @e2 @e3 @hv) (v'B · ·) ?_|refine mqn fun bq hbq=>?_|refine .wk ?_ ?_;focus(try omega)|fail
     refine nxt hok _ ?_
     simp[sub,upd]
    |false=>
     have hok:y'y rs own locs x=false:=by simp[y'y,h3,hv]
     rw[bad hok]
     repeat' first|refine mq2 (v'p @hd @hrow @z'C @e1 @e2 @e3 @hv) (v'B · ·) ?_|refine mqn fun bq hbq=>?_|refine .wk ?_ ?_;focus(try omega)|exact z'p T (z'a _) ⟨rfl,rfl⟩|fail
   have e3:(x.1 == 3)=false:=by simpa using h3
   by_cases h4:x.1=4
   ·have e4:(x.1 == 4)=true:=by simpa using h4
    cases hT:inB x.2.2 rs.length with
    |false=>
     have hok:y'y rs own locs x=false:=by simp[y'y,h4,hT]
     rw[bad hok]
     repeat' first|refine dr (id:=16) T 14 (by kernel_rfl) ?_|(apply VCg.step T rfl rfl);focus((try simp (disch:=omega) only[go_sem,Nat.reduceBEq,z'W,hT,z'o]);(first|exact rfl|refine Op1.callp rfl rfl (v'B _ _) rfl ?_;exact⟨rfl,rfl⟩))|refine VCg.gstep T rfl rfl rfl rfl ?_;try simp only[GB]|refine mq1 (Za1 @hd @hrow @z'C @e1 @e2 @e3 @e4 @hT) ?_|refine mqn fun bq hbq=>?_|refine .wk ?_ ?_;focus(try omega)|exact z'p T (z'a _) ⟨rfl,rfl⟩|fail
    |true=>
     have hb:0≤x.2.2∧x.2.2<rs.length:=by simpa[inB]using hT
     obtain⟨r,hr⟩: ∃r,rs[x.2.2.toNat]?=some r:=⟨_,z'c (by omega)⟩
     have hrr:(iRs rs)[x.2.2.toNat]?=some [iD r]:=by rw[x'q,hr];rfl
     cases hv:inB x.2.1 r with
     |true=>
      have hok:y'y rs own locs x=true:=by simp[y'y,h4,hT,hr,hv]
      repeat' first|refine dr (id:=16) T 14 (by kernel_rfl) ?_|(first|apply VCg.step T rfl rfl|apply exF);focus((try simp (disch:=omega) only[go_sem,Nat.reduceBEq,z'P,hT,hrr,z'o]);(first|exact rfl|refine⟨?_,rfl⟩;try omega|refine Op1.callp rfl rfl (v'B _ _) rfl ?_;exact⟨rfl,rfl⟩))|refine VCg.gstep T rfl rfl rfl rfl ?_;try simp only[GB]|refine mq2 (Zaa @hd @hw @hrow @z'C @e1 @e2 @e3 @e4 @hT @hv) (v'B · ·) ?_|refine mqn fun bq hbq=>?_|refine .wk ?_ ?_;focus(try omega)|fail
      refine nxt hok _ ?_
      simp[sub,upd]
     |false=>
      have hok:y'y rs own locs x=false:=by simp[y'y,h4,hT,hr,hv]
      rw[bad hok]
      repeat' first|refine dr (id:=16) T 14 (by kernel_rfl) ?_|(first|apply VCg.step T rfl rfl|apply exF);focus((try simp (disch:=omega) only[go_sem,Nat.reduceBEq,z'P,hT,hrr,z'o]);(first|exact rfl|refine⟨?_,rfl⟩;try omega|refine Op1.callp rfl rfl (v'B _ _) rfl ?_;exact⟨rfl,rfl⟩))|refine VCg.gstep T rfl rfl rfl rfl ?_;try simp only[GB]|refine mq2 (v'1 @hd @hrow @z'C @e1 @e2 @e3 @e4 @hT @hv) (v'B · ·) ?_|refine mqn fun bq hbq=>?_|refine .wk ?_ ?_;focus(try omega)|exact z'p T (z'a _) ⟨rfl,rfl⟩|fail
   have e4:(x.1 == 4)=false:=by simpa using h4
   have hok:y'y rs own locs x=true:=by simp[y'y,h1,h2,h3,h4]
   repeat' first|refine mq1 (Za1 @hd @hw @hrow @z'C @e1 @e2 @e3 @e4) ?_|refine mqn fun bq hbq=>?_|refine .wk ?_ ?_;focus(try omega)|fail
   refine nxt hok _ ?_
   simp[sub,upd]
  ·have hd:decide ((k:Int)<(l.length:Int))=false:=by simp;omega
   have hA:y'G l rs own locs=oneL (w'i l 0 0):=by
    unfold y'G
    rw[ZaR fun i y hi hy=>hs i y (by omega) hy];rfl
   rw[hA]
   have cl:=Zpx l hl
   cases hL:w'i l 0 0 with
   |none=>
    rw[hL]at cl
    have cl':Pure Tryz.prog 88 [z'S l] (.tup [iD (-1),iD (-1)]):=cl
    repeat' first|refine mq2 (z'X @hd @z'C) cl' ?_|exact z'p T (z'a _) ⟨rfl,rfl⟩|fail
    all_goals rfl
   |some p=>
    rw[hL]at cl
    have cl':Pure Tryz.prog 88 [z'S l] (.tup [iD p.1,iD p.2]):=cl
    repeat' first|refine mq2 (z'X @hd @z'C) cl' ?_|exact z'p T (z'a _) ⟨rfl,rfl⟩|fail
    all_goals rfl
end Go.Proofs.YthlkpnjjkgmlkaaGreat
