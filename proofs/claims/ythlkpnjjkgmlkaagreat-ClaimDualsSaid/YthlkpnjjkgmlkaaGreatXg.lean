/- A table of texts with open addressing, in plain Lean. No condition. -/
import Derived.Test.YthlkpnjjkgmlkaaGreatBa
import Derived.Test.YthlkpnjjkgmlkaaGreatXe
import Derived.Test.YthlkpnjjkgmlkaaGreatXa
import Derived.Test.YthlkpnjjkgmlkaaGreatXf
namespace Go.Proofs.YthlkpnjjkgmlkaaGreat
set_option maxHeartbeats 16000000
set_option linter.unusedSimpArgs false
set_option linter.unusedVariables false
set_option linter.unusedSectionVars false
open Go Go.Proofs Go.Vc
attribute [local irreducible] x'v VCg VCw VCx
section
variable {β : Type} [DecidableEq β]
def Zed (T:List β) (S:List Int) (s:β) (p:Nat):Bool:=match S.getD p 0 with
 |0=>true
 |n=>decide (T[(n-1).toNat]?=some s)
def Zcb (T:List β) (S:List Int) (h:Nat) (s:β):Nat:=((List.range S.length).find? fun j=>Zed T S s ((h+j) % S.length)).getD 0
def ZfA (T:List β) (S:List Int) (h:Nat) (s:β):Nat:=(h+Zcb T S h s) % S.length
structure TI (hm:β→Nat) (T:List β) (S:List Int) (n:Nat):Prop where
 nT:n≤T.length
 nd:T.Nodup
 free:S.count 0+n=S.length
 val: ∀(p:Nat) (v:Int),S[p]?=some v→v=0∨ ∃i:Nat,i<n∧v=(i:Int)+1
 path: ∀(i:Nat) s,i<n→T[i]?=some s→ ∃j,j<S.length∧S[(hm s+j) % S.length]?=some ((i:Int)+1)∧ ∀j',j'<j→ ∃v,S[(hm s+j') % S.length]?=some v∧v≠0∧v≠(i:Int)+1
theorem Zmu {S:List Int} (h:0<S.count 0) (a:Nat): ∃j,j<S.length∧S[(a+j) % S.length]?=some 0:=by
 obtain⟨p,hp,h0⟩:=List.mem_iff_getElem.1 (List.count_pos_iff.1 h)
 have hm:0<S.length:=by omega
 have ha:=Nat.mod_lt a hm
 refine⟨(p+S.length-a % S.length) % S.length,Nat.mod_lt _ hm,?_⟩
 have:(a+(p+S.length-a % S.length) % S.length) % S.length=p:=by
  rw[Nat.add_mod_mod]
  have h1:=Nat.mod_add_div a S.length
  have:a+(p+S.length-a % S.length)=p+S.length*(a/S.length+1):=by
   rw[Nat.mul_add,y'd];omega
  rw[this,Nat.add_mul_mod_self_left,Nat.mod_eq_of_lt hp]
 rw[this,z'c hp,h0]
theorem ZmC {T:List β} {S:List Int} {s:β} {h:Nat} (hf:0<S.count 0):Zcb T S h s<S.length∧Zed T S s (ZfA T S h s)=true∧ ∀j',j'<Zcb T S h s→Zed T S s ((h+j') % S.length)=false:=by
 obtain⟨j0,h0,h1⟩:=Zmu hf h
 have hs0:Zed T S s ((h+j0) % S.length)=true:=by
  unfold Zed
  rw[z'g,h1];rfl
 cases hq:(List.range S.length).find? (fun j=>Zed T S s ((h+j) % S.length))with
 |none=>
  rw[List.find?_eq_none]at hq
  exact absurd hs0 (hq j0 (z'U.2 h0))
 |some j=>
  have he:Zcb T S h s=j:=by unfold Zcb;rw[hq];rfl
  rw[List.find?_eq_some_iff_getElem]at hq
  obtain⟨a1,i,a2,a3,a4⟩:=hq
  simp at a3 a2
  subst a3
  unfold ZfA
  rw[he]
  refine⟨a2,a1,fun j' hj'=>?_⟩
  have:=a4 j' hj'
  simpa using this
theorem Zrb {l:List β} (hn:l.Nodup) {i j:Nat} {x:β} (h1:l[i]?=some x) (h2:l[j]?=some x):i=j:=by
 obtain⟨a1,a2⟩:=z'b.1 h1
 obtain⟨b1,b2⟩:=z'b.1 h2
 exact(List.getElem_inj hn).1 (a2.trans b2.symm)
theorem Zst {hm:β→Nat} {T:List β} {S:List Int} {n:Nat} {s:β} (I:TI hm T S n) (hf:0<S.count 0) (hs: ∀i:Nat,i<n→T[i]?≠some s):
  S[ZfA T S (hm s) s]?=some 0∧Zcb T S (hm s) s<S.length∧ ∀j',j'<Zcb T S (hm s) s→ ∃v,S[(hm s+j') % S.length]?=some v∧v≠0:=by
 obtain⟨h1,h2,h3⟩:=ZmC (T:=T) (S:=S) (s:=s) (h:=hm s) hf
 have hp:ZfA T S (hm s) s<S.length:=Nat.mod_lt _ (by omega)
 obtain⟨v,hv⟩: ∃v,S[ZfA T S (hm s) s]?=some v:=⟨_,z'c hp⟩
 refine⟨?_,h1,fun j' hj'=>?_⟩
 ·rcases I.val _ v hv with rfl|⟨k,hk,rfl⟩
  ·exact hv
  ·exfalso
   unfold Zed at h2
   rw[z'g,hv]at h2
   simp only[z'y]at h2
   split at h2
   ·omega
   ·have e:((k:Int)+1-1).toNat=k:=by omega
    rw[e]at h2
    exact hs k hk (of_decide_eq_true h2)
 ·have hq:(hm s+j') % S.length<S.length:=Nat.mod_lt _ (by omega)
  obtain⟨w,hw⟩: ∃w,S[(hm s+j') % S.length]?=some w:=⟨_,z'c hq⟩
  refine⟨w,hw,fun h0=>?_⟩
  subst h0
  have:=h3 j' hj'
  unfold Zed at this
  rw[z'g,hw]at this
  cases this
theorem TI.put {hm:β→Nat} {T:List β} {S:List Int} {n:Nat} {s:β} (I:TI hm T S n) (hn:T[n]?=some s) (hf:0<S.count 0):TI hm T (S.set (ZfA T S (hm s) s) ((n:Int)+1)) (n+1):=by
 have hno: ∀i:Nat,i<n→T[i]?≠some s:=fun i hi h=>by
  have:=Zrb I.nd h hn;omega
 obtain⟨h1,h2,h3⟩:=Zst I hf hno
 have hp:=(z'b.1 h1).1
 have hlt:=(z'b.1 hn).1
 refine⟨by omega,I.nd,?_,?_,?_⟩
 ·have:=I.free
  rw[x'w,List.count_set hp]
  have e1:(S[ZfA T S (hm s) s] == 0)=true:=by
   have:=(z'b.1 h1).2
   rw[this];rfl
  have e2:(((n:Int)+1) == 0)=false:=by rw[beq_eq_false_iff_ne];omega
  rw[e1,e2]
  simp
  omega
 ·intro p v hv
  rw[v'X]at hv
  split at hv
  ·rename_i hpp
   subst hpp
   cases hv;exact .inr ⟨n,by omega,rfl⟩
  ·rcases I.val p v hv with rfl|⟨i,hi,rfl⟩
   ·exact .inl rfl
   ·exact .inr ⟨i,by omega,rfl⟩
 ·intro i t hi ht
  rw[x'w]
  have keep: ∀(q:Nat) (v:Int),S[q]?=some v→v≠0→(S.set (ZfA T S (hm s) s) ((n:Int)+1))[q]?=some v:=by
   intro q v hv h0
   rw[w'N]
   ·exact hv
   ·intro e;subst e;rw[h1]at hv;cases hv;exact h0 rfl
  rcases z'i i n with hlt'|hge
  ·obtain⟨j,k1,k2,k3⟩:=I.path i t hlt' ht
   refine⟨j,k1,keep _ _ k2 (by omega),fun j' hj'=>?_⟩
   obtain⟨v,q1,q2,q3⟩:=k3 j' hj'
   exact⟨v,keep _ _ q1 q2,q2,q3⟩
  ·obtain rfl:i=n:=by omega
   rw[hn]at ht
   cases ht
   refine⟨Zcb T S (hm s) s,h2,?_,fun j' hj'=>?_⟩
   ·have:(hm s+Zcb T S (hm s) s) % S.length=ZfA T S (hm s) s:=rfl
    rw[this,List.getElem?_set_self hp]
   ·obtain⟨v,q1,q2⟩:=h3 j' hj'
    refine⟨v,keep _ _ q1 q2,q2,?_⟩
    rcases I.val _ v q1 with rfl|⟨k,hk,rfl⟩
    ·exact absurd rfl q2
    ·omega
theorem TI.more {hm:β→Nat} {T:List β} {S:List Int} {n:Nat} (I:TI hm T S n) {s:β} (hs:s∉T):TI hm (T++[s]) S n:=by
 refine⟨by rw[z'j];have:=I.nT;omega,y'4.2 ⟨I.nd,by simp,fun x hx y hy=>by simp at hy;rintro rfl;exact hs (hy▸hx)⟩,I.free,I.val,fun i t hi ht=>?_⟩
 rw[y'o (by have:=I.nT;omega)]at ht
 exact I.path i t hi ht
theorem TI.none (hm:β→Nat) {T:List β} (hn:T.Nodup) (m:Nat):TI hm T (List.replicate m 0) 0:=by
 refine⟨z'A _,hn,by simp,fun p v hv=>?_,fun i s hi=>by omega⟩
 rw[List.getElem?_replicate]at hv
 split at hv
 ·cases hv;exact .inl rfl
 ·cases hv
end
def Zu2 (k:IntKind) (x y:Int):Int:=k.wrap ((BitVec.ofInt k.bits x^^^BitVec.ofInt k.bits y).toNat:Nat)
def ZvK (k:IntKind) (x y:Int):Int:=x.fdiv (2^min y.toNat k.bits)
def Zvd (h:Int):Nat:=(BitVec.ofInt 64 h).toNat
set_option maxRecDepth 20000
structure OkC (c:Cf):Prop where
 pc:c.pc.length≤1000
 mem:c.mem.length≤1000
 regs:c.regs.length≤1000
 row: ∀r,r∈c.regs→r.length≤1000
 bufs:c.bufs.length≤1000
 buf: ∀b,b∈c.bufs→b.length≤1000
def v'c (a b:Cf):Bool:=decide (a.pc=b.pc)&&(decide (a.mem=b.mem)&&(decide (a.regs=b.regs)&&decide (a.bufs=b.bufs)))
theorem Zo3 {α:Type} {l m:List α} (hl:l.length=m.length) (h: ∀i,i<l.length→l[i]?=m[i]?):l=m:=by
 apply w'M
 intro i
 rcases z'i i l.length with h'|h'
 ·exact h i h'
 ·rw[z'M h',z'M (by omega)]
theorem ZlI {α:Type} {l m:List α} {i:Nat} {x y:α} (hx:l[i]?=some x) (hy:m[i]?=some y) (h:x≠y):l≠m:=fun e=>by
 rw[e,hy]at hx
 exact h (z'O hx).symm
theorem Zl9 {α:Type} {l m:List α} {k:Nat} {x:α} (hs: ∀i,i<k→l[i]?=m[i]?) (hx:l[k]?=some x) (hy:m[k]?=some x): ∀i,i<k+1→l[i]?=m[i]?:=fun i hi=>by
 rcases z'i i k with h'|h'
 ·exact hs i h'
 ·obtain rfl:i=k:=by omega
  rw[hx,hy]
theorem ZrF (a b:Cf) (ha:OkC a) (hb:OkC b):Pure Tryz.prog 144 [.agg (cfC a),.agg (cfC b)] (bD (v'c a b)):=by
 have ap:=ha.pc
 have bp:=hb.pc
 have am:=ha.mem
 have bm:=hb.mem
 have ar:=ha.regs
 have br:=hb.regs
 have ab:=ha.bufs
 have bb:=hb.bufs
 have c1:=ZgJ a.pc b.pc (by omega) (by omega)
 have c2:=ZgJ a.mem b.mem (by omega) (by omega)
 refine Fun.of T [.tmp 4] Tryz.func144 rfl Tryz.ntmps144 Tryz.results144 rfl (by kernel_rfl) ?_
 by_cases h1:a.pc=b.pc
 case neg=>
  have e1:decide (a.pc=b.pc)=false:=decide_eq_false h1
  have hS:v'c a b=false:=by simp[v'c,h1]
  rw[hS]
  rw[e1]at c1
  repeat' first|refine vb rfl rfl rfl rfl ?_|refine mq3 c1 ?_|exact z'p T (z'a _) ⟨rfl,rfl⟩|fail
 have e1:decide (a.pc=b.pc)=true:=decide_eq_true h1
 rw[e1]at c1
 by_cases h2:a.mem=b.mem
 case neg=>
  have e2:decide (a.mem=b.mem)=false:=decide_eq_false h2
  have hS:v'c a b=false:=by simp[v'c,h2]
  rw[hS]
  rw[e2]at c2
  repeat' first|refine vb rfl rfl rfl rfl ?_|refine mq3 (z'X c1 c2) ?_|exact z'p T (z'a _) ⟨rfl,rfl⟩|fail
 have e2:decide (a.mem=b.mem)=true:=decide_eq_true h2
 rw[e2]at c2
 by_cases h3:a.regs.length=b.regs.length
 case neg=>
  have e3:((a.regs.length:Int) != (b.regs.length:Int))=true:=bne_iff_ne.2 (by omega)
  have hS:v'c a b=false:=by
   have:a.regs≠b.regs:=fun h=>h3 (by rw[h])
   simp[v'c,this]
  rw[hS]
  repeat' first|refine vb rfl rfl rfl rfl ?_|refine mq2 (z'X @e3 @y'C) (z'X c1 c2) ?_|exact z'p T (z'a _) ⟨rfl,rfl⟩|fail
 have e3:((a.regs.length:Int) != (b.regs.length:Int))=false:=by simp[h3]
 by_cases h4:a.bufs.length=b.bufs.length
 case neg=>
  have e4:((a.bufs.length:Int) != (b.bufs.length:Int))=true:=bne_iff_ne.2 (by omega)
  have hS:v'c a b=false:=by
   have:a.bufs≠b.bufs:=fun h=>h4 (by rw[h])
   simp[v'c,this]
  rw[hS]
  repeat' first|refine vb rfl rfl rfl rfl ?_|refine mq2 (x'f @e3 @e4 @y'C @y'm) (z'X c1 c2) ?_|exact z'p T (z'a _) ⟨rfl,rfl⟩|fail
 have e4:((a.bufs.length:Int) != (b.bufs.length:Int))=false:=by simp[h4]
 repeat' first|refine vb rfl rfl rfl rfl ?_|refine mq2 (x'f @e3 @e4 @y'C @y'm) (z'X c1 c2) ?_|fail
 refine VC.loop {k:Nat//k≤a.regs.length∧ ∀i,i<k→a.regs[i]?=b.regs[i]?} (fun p=>⟨z'T [(2,.pt (cfC a)),(3,.pt (cfC b)),(5,iD (p.1:Nat))],[]⟩) (fun p=>a.regs.length-p.1) ⟨0,by omega,fun i hi=>by omega⟩ ?_ ?_
 ·refine Weak.sub ?_
  simp[sub,upd]
 ·rintro⟨k,hk,hs⟩
  dsimp only
  rcases z'i k a.regs.length with hlt|hge
  ·have hd:decide ((k:Int)<(a.regs.length:Int))=true:=by simp;omega
   have hw:IntKind.i64.wrap ((k:Int)+1)=((k+1:Nat):Int):=by rw[w64 (by omega)];omega
   have hkb:k<b.regs.length:=by omega
   obtain⟨x,hx⟩: ∃x,a.regs[k]?=some x:=⟨_,z'c hlt⟩
   obtain⟨y,hy⟩: ∃y,b.regs[k]?=some y:=⟨_,z'c hkb⟩
   have rx:(w'y a.regs)[k]?=some [y'r x]:=by rw[v'3,hx];rfl
   have ry:(w'y b.regs)[k]?=some [y'r y]:=by rw[v'3,hy];rfl
   have xl:=ha.row x (z'l hx)
   have yl:=hb.row y (z'l hy)
   have c3:=ZgJ x y (by omega) (by omega)
   by_cases he:x=y
   ·rw[decide_eq_true he]at c3
    repeat' first|refine dr (id:=6) T 10 (by kernel_rfl) ?_|(first|apply VCg.step T rfl rfl|apply exF);focus((try simp (disch:=omega) only[go_sem,Nat.reduceBEq,rx,ry,y'C]);(first|exact rfl|refine⟨?_,rfl⟩;try omega))|refine mq2 (x'i @hd @hw @y'C) c3 ?_|fail
    refine⟨⟨k+1,by omega,Zl9 hs hx (by rw[hy,he])⟩,Weak.sub ?_,by simp only[];omega⟩
    simp[sub,upd]
   ·rw[decide_eq_false he]at c3
    have hS:v'c a b=false:=by
     have:=ZlI hx hy he
     simp[v'c,this]
    rw[hS]
    repeat' first|refine dr (id:=6) T 10 (by kernel_rfl) ?_|(apply VCg.step T rfl rfl);focus((try simp (disch:=omega) only[go_sem,Nat.reduceBEq,rx,ry,y'C]);(first|exact rfl|refine⟨?_,rfl⟩;try omega))|refine mq2 (z'X @hd @y'C) c3 ?_|exact z'p T (z'a _) ⟨rfl,rfl⟩|fail
  ·have hd:decide ((k:Int)<(a.regs.length:Int))=false:=by simp;omega
   have hr:a.regs=b.regs:=Zo3 h3 fun i hi=>hs i (by omega)
   repeat' first|refine mq1 (z'X @hd @y'C) ?_|fail
   refine VC.loop {k:Nat//k≤a.bufs.length∧ ∀i,i<k→a.bufs[i]?=b.bufs[i]?} (fun p=>⟨z'T [(2,.pt (cfC a)),(3,.pt (cfC b)),(6,iD (p.1:Nat))],[]⟩) (fun p=>a.bufs.length-p.1) ⟨0,by omega,fun i hi=>by omega⟩ ?_ ?_
   ·refine Weak.sub ?_
    simp[sub,upd]
   ·rintro⟨k,hk,hs⟩
    dsimp only
    rcases z'i k a.bufs.length with hlt|hge
    ·have hd:decide ((k:Int)<(a.bufs.length:Int))=true:=by simp;omega
     have hw:IntKind.i64.wrap ((k:Int)+1)=((k+1:Nat):Int):=by rw[w64 (by omega)];omega
     have hkb:k<b.bufs.length:=by omega
     obtain⟨x,hx⟩: ∃x,a.bufs[k]?=some x:=⟨_,z'c hlt⟩
     obtain⟨y,hy⟩: ∃y,b.bufs[k]?=some y:=⟨_,z'c hkb⟩
     have rx:(w'o a.bufs)[k]?=some [buf x]:=by rw[x'P,hx];rfl
     have ry:(w'o b.bufs)[k]?=some [buf y]:=by rw[x'P,hy];rfl
     have xl:=ha.buf x (z'l hx)
     have yl:=hb.buf y (z'l hy)
     have c3:=Ztx x y (by omega) (by omega)
     by_cases he:x=y
     ·rw[decide_eq_true he]at c3
      repeat' first|refine dr (id:=11) T 10 (by kernel_rfl) ?_|(first|apply VCg.step T rfl rfl|apply exF);focus((try simp (disch:=omega) only[go_sem,Nat.reduceBEq,rx,ry,y'm]);(first|exact rfl|refine⟨?_,rfl⟩;try omega))|refine mq2 (x'i @hd @hw @y'm) c3 ?_|fail
      refine⟨⟨k+1,by omega,Zl9 hs hx (by rw[hy,he])⟩,Weak.sub ?_,by simp only[];omega⟩
      simp[sub,upd]
     ·rw[decide_eq_false he]at c3
      have hS:v'c a b=false:=by
       have:=ZlI hx hy he
       simp[v'c,this]
      rw[hS]
      repeat' first|refine dr (id:=11) T 10 (by kernel_rfl) ?_|(apply VCg.step T rfl rfl);focus((try simp (disch:=omega) only[go_sem,Nat.reduceBEq,rx,ry,y'm]);(first|exact rfl|refine⟨?_,rfl⟩;try omega))|refine mq2 (z'X @hd @y'm) c3 ?_|exact z'p T (z'a _) ⟨rfl,rfl⟩|fail
    ·have hd:decide ((k:Int)<(a.bufs.length:Int))=false:=by simp;omega
     have hb':a.bufs=b.bufs:=Zo3 h4 fun i hi=>hs i (by omega)
     have hS:v'c a b=true:=by simp[v'c,h1,h2,hr,hb']
     rw[hS]
     repeat' first|refine mq1 (z'X @hd @y'm) ?_|exact z'p T (z'a _) ⟨rfl,rfl⟩|fail
def Zub (h b:Int):Int:=IntKind.u64.wrap (Zu2 .u64 h b*1099511628211)
def ZtP (s:ByteArray) (k:Nat):List Int:=((s.data.toList.drop k).take 8).map (fun c=>(c.toNat:Int))++List.replicate (8-(s.size-k)) 0
def ZuH (h:Int) (l:List Int):Int:=l.foldl (fun h b=>Zub h (IntKind.u64.wrap b)) h
def Zr2 (s:ByteArray):Nat→Int
 |0=>14695981039346656037
 |j+1=>ZuH (Zr2 s j) (ZtP s (8*j))
def Zt1 (s:ByteArray):Int:=
 let h:=Zub (Zr2 s ((s.size+7)/8)) (IntKind.u64.wrap (s.size:Nat))
 Zu2 .u64 h (ZvK .u64 h 29)
theorem ZqX: ∃F:ByteArray→Int,F=Zt1:=⟨_,rfl⟩
noncomputable def Zvc:ByteArray→Int:=Classical.choose ZqX
noncomputable abbrev hm0 (s:ByteArray):Nat:=Zvd (Zvc s)
structure Zvq (X:List ByteArray) (S:List Int) (k:Nat):Prop where
 len:S.length=2^k
 kk:4≤k∧k≤40
 free:0<S.count 0
 val: ∀v,v∈S→v=0∨ ∃i:Nat,i<X.length∧v=(i:Int)+1
 tl:X.length≤1000000
def lens {α:Type} (l:List (List α)):Nat:=(l.map List.length).sum
end Go.Proofs.YthlkpnjjkgmlkaaGreat
