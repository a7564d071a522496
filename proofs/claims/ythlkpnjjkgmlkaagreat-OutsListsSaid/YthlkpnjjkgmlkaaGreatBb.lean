/- A table of texts with open addressing, in plain Lean. No condition. -/
import Derived.Test.YthlkpnjjkgmlkaaGreatWb
import Derived.Test.YthlkpnjjkgmlkaaGreatWj
namespace Go.Proofs.YthlkpnjjkgmlkaaGreat
set_option maxHeartbeats 16000000
set_option linter.unusedSimpArgs false
set_option linter.unusedVariables false
set_option linter.unusedSectionVars false
open Go Go.Proofs Go.Vc
attribute [local irreducible] x'c VCg VCw VCx
section
variable {β : Type} [DecidableEq β]
def x'8 (T:List β) (S:List Int) (s:β) (p:Nat):Bool:=match S.getD p 0 with
 |0=>true
 |n=>decide (T[(n-1).toNat]?=some s)
theorem ZfD {T:List β} {S:List Int} {s:β} {p:Nat} (hv:S[p]?=some 0):x'8 T S s p=true:=by
 unfold x'8
 rw[z'd,hv]
 rfl
theorem Zg4 {T:List β} {S:List Int} {s:β} {p i:Nat} (hv:S[p]?=some ((i:Int)+1)):x'8 T S s p=decide (T[i]?=some s):=by
 unfold x'8
 have e:((i:Int)+1-1).toNat=i:=by omega
 rw[z'd,hv]
 simp only[z'M]
 split
 ·omega
 ·rw[e]
def x'2 (T:List β) (S:List Int) (h:Nat) (s:β):Nat:=((List.range S.length).find? fun j=>x'8 T S s ((h+j) % S.length)).getD 0
def v'R (T:List β) (S:List Int) (h:Nat) (s:β):Nat:=(h+x'2 T S h s) % S.length
structure TI (hm:β→Nat) (T:List β) (S:List Int) (n:Nat):Prop where
 nT:n≤T.length
 nd:T.Nodup
 free:S.count 0+n=S.length
 val: ∀(p:Nat) (v:Int),S[p]?=some v→v=0∨ ∃i:Nat,i<n∧v=(i:Int)+1
 path: ∀(i:Nat) s,i<n→T[i]?=some s→ ∃j,j<S.length∧S[(hm s+j) % S.length]?=some ((i:Int)+1)∧ ∀j',j'<j→ ∃v,S[(hm s+j') % S.length]?=some v∧v≠0∧v≠(i:Int)+1
theorem Zn3 {T:List β} {S:List Int} {h:Nat} {s:β} {j:Nat} (hj:j<S.length) (hs:x'8 T S s ((h+j) % S.length)=true) (hb: ∀j',j'<j→x'8 T S s ((h+j') % S.length)=false):x'2 T S h s=j:=by
 unfold x'2
 have:(List.range S.length).find? (fun j=>x'8 T S s ((h+j) % S.length))=some j:=by
  rw[List.find?_eq_some_iff_getElem]
  refine⟨hs,j,by simpa using hj,by simp,fun i hi=>?_⟩
  simp[hb i hi]
 rw[this];rfl
theorem ZlV {S:List Int} (h:0<S.count 0) (a:Nat): ∃j,j<S.length∧S[(a+j) % S.length]?=some 0:=by
 obtain⟨p,hp,h0⟩:=List.mem_iff_getElem.1 (List.count_pos_iff.1 h)
 have hm:0<S.length:=by omega
 have ha:=x'Z a hm
 refine⟨(p+S.length-a % S.length) % S.length,x'Z _ hm,?_⟩
 have:(a+(p+S.length-a % S.length) % S.length) % S.length=p:=by
  rw[Nat.add_mod_mod]
  have h1:=Nat.mod_add_div a S.length
  have:a+(p+S.length-a % S.length)=p+S.length*(a/S.length+1):=by
   rw[Nat.mul_add,z'K];omega
  rw[this,Nat.add_mul_mod_self_left,Nat.mod_eq_of_lt hp]
 rw[this,z'b hp,h0]
theorem Zgw {T:List β} {S:List Int} {s:β} {h:Nat} (hf:0<S.count 0):x'2 T S h s<S.length∧x'8 T S s (v'R T S h s)=true∧ ∀j',j'<x'2 T S h s→x'8 T S s ((h+j') % S.length)=false:=by
 obtain⟨j0,h0,h1⟩:=ZlV hf h
 have hs0:x'8 T S s ((h+j0) % S.length)=true:=by
  unfold x'8
  rw[z'd,h1];rfl
 cases hq:(List.range S.length).find? (fun j=>x'8 T S s ((h+j) % S.length))with
 |none=>
  rw[List.find?_eq_none]at hq
  exact absurd hs0 (hq j0 (z'Q.2 h0))
 |some j=>
  have he:x'2 T S h s=j:=by unfold x'2;rw[hq];rfl
  rw[List.find?_eq_some_iff_getElem]at hq
  obtain⟨a1,i,a2,a3,a4⟩:=hq
  simp at a3 a2
  subst a3
  unfold v'R
  rw[he]
  refine⟨a2,a1,fun j' hj'=>?_⟩
  have:=a4 j' hj'
  simpa using this
theorem Zk3 {l:List β} (hn:l.Nodup) {i j:Nat} {x:β} (h1:l[i]?=some x) (h2:l[j]?=some x):i=j:=by
 obtain⟨a1,a2⟩:=z'g.1 h1
 obtain⟨b1,b2⟩:=z'g.1 h2
 exact(List.getElem_inj hn).1 (a2.trans b2.symm)
theorem Zp4 {hm:β→Nat} {T:List β} {S:List Int} {n i:Nat} {s:β} (I:TI hm T S n) (hi:i<n) (hs:T[i]?=some s):S[v'R T S (hm s) s]?=some ((i:Int)+1):=by
 obtain⟨j,h1,h2,h3⟩:=I.path i s hi hs
 have hst:x'2 T S (hm s) s=j:=by
  refine Zn3 h1 ?_ fun j' hj'=>?_
  ·unfold x'8
   rw[z'd,h2]
   simp only[z'M]
   split
   ·rfl
   ·have:((i:Int)+1-1).toNat=i:=by omega
    rw[this];exact decide_eq_true hs
  ·obtain⟨v,hv,hn,hn2⟩:=h3 j' hj'
   rcases I.val _ v hv with rfl|⟨k,hk,rfl⟩
   ·exact absurd rfl hn
   ·unfold x'8
    rw[z'd,hv]
    have e:((k:Int)+1-1).toNat=k:=by omega
    simp only[z'M,e]
    rw[decide_eq_false_iff_not]
    intro hk'
    have:k=i:=Zk3 I.nd hk' hs
    subst this
    exact hn2 rfl
 unfold v'R
 rw[hst];exact h2
theorem Zmf {hm:β→Nat} {T:List β} {S:List Int} {n:Nat} {s:β} (I:TI hm T S n) (hf:0<S.count 0) (hs: ∀i:Nat,i<n→T[i]?≠some s):
  S[v'R T S (hm s) s]?=some 0∧x'2 T S (hm s) s<S.length∧ ∀j',j'<x'2 T S (hm s) s→ ∃v,S[(hm s+j') % S.length]?=some v∧v≠0:=by
 obtain⟨h1,h2,h3⟩:=Zgw (T:=T) (S:=S) (s:=s) (h:=hm s) hf
 have hp:v'R T S (hm s) s<S.length:=x'Z _ (by omega)
 obtain⟨v,hv⟩: ∃v,S[v'R T S (hm s) s]?=some v:=⟨_,z'b hp⟩
 refine⟨?_,h1,fun j' hj'=>?_⟩
 ·rcases I.val _ v hv with rfl|⟨k,hk,rfl⟩
  ·exact hv
  ·exfalso
   unfold x'8 at h2
   rw[z'd,hv]at h2
   simp only[z'M]at h2
   split at h2
   ·omega
   ·have e:((k:Int)+1-1).toNat=k:=by omega
    rw[e]at h2
    exact hs k hk (of_decide_eq_true h2)
 ·have hq:(hm s+j') % S.length<S.length:=x'Z _ (by omega)
  obtain⟨w,hw⟩: ∃w,S[(hm s+j') % S.length]?=some w:=⟨_,z'b hq⟩
  refine⟨w,hw,fun h0=>?_⟩
  subst h0
  have:=h3 j' hj'
  unfold x'8 at this
  rw[z'd,hw]at this
  cases this
theorem TI.put {hm:β→Nat} {T:List β} {S:List Int} {n:Nat} {s:β} (I:TI hm T S n) (hn:T[n]?=some s) (hf:0<S.count 0):TI hm T (S.set (v'R T S (hm s) s) ((n:Int)+1)) (n+1):=by
 have hno: ∀i:Nat,i<n→T[i]?≠some s:=fun i hi h=>by
  have:=Zk3 I.nd h hn;omega
 obtain⟨h1,h2,h3⟩:=Zmf I hf hno
 have hp:=(z'g.1 h1).1
 have hlt:=(z'g.1 hn).1
 refine⟨by omega,I.nd,?_,?_,?_⟩
 ·have:=I.free
  rw[y't,List.count_set hp]
  have e1:(S[v'R T S (hm s) s] == 0)=true:=by
   have:=(z'g.1 h1).2
   rw[this];rfl
  have e2:(((n:Int)+1) == 0)=false:=by rw[beq_eq_false_iff_ne];omega
  rw[e1,e2]
  simp
  omega
 ·intro p v hv
  rw[List.getElem?_set]at hv
  split at hv
  ·rename_i hpp
   subst hpp
   cases hv;exact .inr ⟨n,by omega,rfl⟩
  ·rcases I.val p v hv with rfl|⟨i,hi,rfl⟩
   ·exact .inl rfl
   ·exact .inr ⟨i,by omega,rfl⟩
 ·intro i t hi ht
  rw[y't]
  have keep: ∀(q:Nat) (v:Int),S[q]?=some v→v≠0→(S.set (v'R T S (hm s) s) ((n:Int)+1))[q]?=some v:=by
   intro q v hv h0
   rw[x'M]
   ·exact hv
   ·intro e;subst e;rw[h1]at hv;cases hv;exact h0 rfl
  rcases z'j i n with hlt'|hge
  ·obtain⟨j,k1,k2,k3⟩:=I.path i t hlt' ht
   refine⟨j,k1,keep _ _ k2 (by omega),fun j' hj'=>?_⟩
   obtain⟨v,q1,q2,q3⟩:=k3 j' hj'
   exact⟨v,keep _ _ q1 q2,q2,q3⟩
  ·obtain rfl:i=n:=by omega
   rw[hn]at ht
   cases ht
   refine⟨x'2 T S (hm s) s,h2,?_,fun j' hj'=>?_⟩
   ·have:(hm s+x'2 T S (hm s) s) % S.length=v'R T S (hm s) s:=rfl
    rw[this,List.getElem?_set_self hp]
   ·obtain⟨v,q1,q2⟩:=h3 j' hj'
    refine⟨v,keep _ _ q1 q2,q2,?_⟩
    rcases I.val _ v q1 with rfl|⟨k,hk,rfl⟩
    ·exact absurd rfl q2
    ·omega
theorem TI.more {hm:β→Nat} {T:List β} {S:List Int} {n:Nat} (I:TI hm T S n) {s:β} (hs:s∉T):TI hm (T++[s]) S n:=by
 refine⟨by rw[z'h];have:=I.nT;omega,y'z.2 ⟨I.nd,by simp,fun x hx y hy=>by simp at hy;rintro rfl;exact hs (hy▸hx)⟩,I.free,I.val,fun i t hi ht=>?_⟩
 rw[y'l (by have:=I.nT;omega)]at ht
 exact I.path i t hi ht
theorem TI.none (hm:β→Nat) {T:List β} (hn:T.Nodup) (m:Nat):TI hm T (List.replicate m 0) 0:=by
 refine⟨y'f _,hn,by simp,fun p v hv=>?_,fun i s hi=>by omega⟩
 rw[List.getElem?_replicate]at hv
 split at hv
 ·cases hv;exact .inl rfl
 ·cases hv
end
theorem Zfr {k n:Nat} (h:n<2^k):(BitVec.ofInt k (n:Int)).toNat=n:=by
 rw[BitVec.ofInt_natCast,BitVec.toNat_ofNat,Nat.mod_eq_of_lt h]
theorem ZlK {n:Nat} (h:n<18446744073709551616):IntKind.u64.wrap (n:Int)=n:=by
 have e:IntKind.u64.wrap (n:Int)=(n:Int) % 18446744073709551616:=rfl
 rw[e];omega
def ZhF (h:Int):Nat:=(BitVec.ofInt 64 h).toNat
theorem Ztx (h:Int) {k m:Nat} (hm:m=2^k) (hk:k≤60):ZeZ .u64 h ((m:Int)-1)=((ZhF h % m:Nat):Int):=by
 have hp:0<2^k:=Nat.two_pow_pos k
 have hlt:2^k≤2^60:=y'X (by decide) hk
 have e:((m:Int)-1)=((m-1:Nat):Int):=by omega
 unfold ZeZ
 rw[e]
 have e2:(BitVec.ofInt IntKind.u64.bits h&&&BitVec.ofInt IntKind.u64.bits ((m-1:Nat):Int)).toNat=ZhF h % m:=by
  rw[BitVec.toNat_and]
  have:(BitVec.ofInt IntKind.u64.bits ((m-1:Nat):Int)).toNat=m-1:=Zfr (by
   have:(2:Nat)^IntKind.u64.bits=18446744073709551616:=by decide
   omega)
  rw[this,hm,Nat.and_two_pow_sub_one_eq_mod]
  rfl
 rw[e2]
 have:=x'Z (ZhF h) (show 0<m by omega)
 exact ZlK (by omega)
theorem Ztw {a k m:Nat} (hm:m=2^k) (hk:k≤60) (ha:a≤m):ZeZ .i64 (a:Int) ((m:Int)-1)=((a % m:Nat):Int):=by
 have hp:0<2^k:=Nat.two_pow_pos k
 have hlt:2^k≤2^60:=y'X (by decide) hk
 have e:((m:Int)-1)=((m-1:Nat):Int):=by omega
 unfold ZeZ
 rw[e]
 have e2:(BitVec.ofInt IntKind.i64.bits (a:Int)&&&BitVec.ofInt IntKind.i64.bits ((m-1:Nat):Int)).toNat=a % m:=by
  rw[BitVec.toNat_and]
  have hb:(2:Nat)^IntKind.i64.bits=18446744073709551616:=by decide
  rw[Zfr (k:=IntKind.i64.bits) (n:=m-1) (by omega),Zfr (k:=IntKind.i64.bits) (n:=a) (by omega),hm,Nat.and_two_pow_sub_one_eq_mod]
 rw[e2]
 have:=x'Z a (show 0<m by omega)
 rw[w64 (by omega)]
abbrev u8D (c:UInt8):D:= .is (.int .u8 c.toNat)
abbrev v'K (s:ByteArray):List Value:=s.data.toList.map fun c=>Value.int .u8 c.toNat
abbrev Zaw (s:ByteArray):List D:=s.data.toList.map u8D
theorem Zec (s:ByteArray):(v'K s).length=s.size:=by simp[v'K]
theorem Zng (s:ByteArray):(Zaw s).length=s.size:=by simp[Zaw]
theorem Zlu {P:Program} (w:World) (dT sT ty elem:TypeId) {inf:TypeInfo} (g dLen dCap:Nat) (s:ByteArray) (cur:Array Value) (t:TypeId)
  (hu:P.underlying dT=some (.slice elem)) (hi:P.info? elem=some inf) (hg:w.heap[g]?=some (.cells cur t (0,0))) (hfit:Nat.min s.size dLen≤cur.size):
  (Builtin.copy_ #[dT,sT] ty #[.slice (some ⟨g,0,none⟩) dLen dCap,.string s]).run P w=
   .ok (goInt (Nat.min s.size dLen)) (w.setRow g ((v'K s).take (Nat.min s.size dLen)++cur.toList.drop (Nat.min s.size dLen)).toArray):=by
 have hl:((v'K s).take (Nat.min s.size dLen)).length=Nat.min s.size dLen:=by
  rw[z'y,Zec]
  exact x'1 (Nat.min_le_left _ _)
 have hst:=run_storeCells_at P g 0 t ((v'K s).take (Nat.min s.size dLen)) 0 cur w hg (by rw[hl];simpa using hfit) (by
  intro v hv
  obtain⟨c,_,rfl⟩:=z'p.1 (x'L hv)
  rfl)
 rw[hl]at hst
 simp only[y'p,x'F,z'H]at hst
 simp[Builtin.copy_,run_underlying hu,Builtin.lenOf,Builtin.firstCells,sizeOf,typeInfo,hi,hst]
theorem ZsB {P:Program} (T:Tab P) {o:Oper} {E:Operand→D} {H:Heap} {K:D→Heap→Prop} {x y:Operand} {t u:TypeId} {e esz eb:Nat} {ea:Bool} {ez:List Value} {b cap n k:Nat} {ty:TypeId} {l:List D} {s:ByteArray}
  (ho:o.op= .call ⟨.builtin .copy, #[x,y], #[t,u]⟩) (hkd:kdT (T.get t)= .slice e esz eb ea ez) (hx0:E x= .gs (some (b,cap)) n) (hy0:E y= .is (.string s)) (hb:y'0 H b=some (.cells ty k l)) (hl:l.length=k) (hn:n≤k)
  (hk:K (.is (.int .i64 (Nat.min s.size n:Nat))) (hset H b (.cells ty k ((Zaw s).take (Nat.min s.size n)++l.drop (Nat.min s.size n))))):Op1 P o E H K:=by
 obtain⟨hu,hkn,hsz,_⟩:=x'P T hkd
 obtain⟨d,inf,z,_,hinf,_,h4,_⟩:=y'7 hkn
 have hm:=y'J hb
 have hmn:Nat.min s.size n≤n:=Nat.min_le_right _ _
 have hms:Nat.min s.size n≤s.size:=Nat.min_le_left _ _
 have hrun0:=fun(w:World) (arr:Array Value) (hbb:w.heap[b]?=some (.cells arr ty (0,0))) (hnn:arr.size=k)=>Zlu (P:=P) w t u o.type e b n cap s arr ty hu hinf hbb (by omega)
 generalize Nat.min s.size n=m at*
 have hbm:b∈H.blocks:=z'p.2 ⟨_,hm,rfl⟩
 refine⟨fun d' H'=>d'= .is (.int .i64 (m:Nat))∧H'=hset H b (.cells ty k ((Zaw s).take (m)++l.drop (m))),?_,fun _ _ ⟨h1,h2⟩=>h1▸h2▸hk⟩
 intro w L0 ε hi hx
 have h1:=hx x (by simp[ho,Op.operands,Call.operands])
 have h2:=hx y (by simp[ho,Op.operands,Call.operands])
 rw[hx0,Rel]at h1
 rw[hy0]at h2
 have h2':ε y= .string s:=h2
 obtain⟨hv,hcap⟩:=h1
 obtain⟨hl1,arr,hbb,hnn,hrel⟩:=hi.rel _ _ hm
 have hr:=hrun0 w arr hbb hnn
 have hrun:(execOp ε o).run P w= .ok (.value (goInt (m))) (w.setRow b ((v'K s).take (m)++arr.toList.drop (m)).toArray):=by
  simp only[execOp,ho,resolve,invoke,builtin]
  have hv':ε x= .slice (some ⟨b,0,none⟩) n cap:=hv
  simp[go_sem,hv',h2',hr]
 rw[hrun]
 have hlen:((Zaw s).take (m)++l.drop (m)).length=k:=by
  rw[z'h,z'y,y'C,Zng]
  omega
 have hone:((Zaw s).take (m)++l.drop (m)).all oneD=true:=by
  rw[List.all_append,v'0 hl1,w'm]
  exact v'1 (by rw[z'o];intro x hx;obtain⟨c,_,rfl⟩:=z'p.1 hx;rfl) _
 have hevo:Evo w H (w.setRow b ((v'K s).take (m)++arr.toList.drop (m)).toArray) (hset H b (.cells ty k ((Zaw s).take (m)++l.drop (m)))):=Zbh hbm _ (x'u _ _ _)
 refine⟨_,_,⟨rfl,rfl⟩,rfl,?_,hevo⟩
 have hke:Keeps w (live H L0) (w.setRow b ((v'K s).take (m)++arr.toList.drop (m)).toArray) (live H L0):=fun k hk1 hn=>⟨setRow_other w b k _ (fun e=>hn (.inr (e▸hbm))),hn⟩
 refine HInv.set hi hbm (by simp[World.setRow]) (fun k hne hk1=>setRow_other w b k _ hne) ⟨hone,_,setRow_heap w b arr _ ty _ hbb,?_,?_⟩
 ·rw[List.size_toArray,z'h,z'y,y'C,Zec,z'P]
  omega
 ·rw[hlen]
  simp only[]
  have e1:((v'K s).take (m)++arr.toList.drop (m)).take k=(v'K s).take (m)++arr.toList.drop (m):=z'5 (by
   rw[z'h,z'y,y'C,Zec,z'P]
   omega)
  rw[e1]
  rw[hl,z'5 (by rw[z'P];omega)]at hrel
  refine RelL.append _ _ _ _ (RelL.take _ _ _ ?_) (RelL.mono hke _ _ (RelL.drop _ _ _ hrel))
  have:=ZdY (w.setRow b ((v'K s).take (m)++arr.toList.drop (m)).toArray) (live H L0) (v'K s)
  rw[List.map_map]at this
  exact this
set_option maxRecDepth 20000
def ZnO (h b:Int):Int:=IntKind.u64.wrap (ZlL .u64 h b*1099511628211)
def v'L (s:ByteArray) (k:Nat):List Int:=((s.data.toList.drop k).take 8).map (fun c=>(c.toNat:Int))++List.replicate (8-(s.size-k)) 0
theorem Znj (s:ByteArray) (k:Nat):(v'L s k).length=8:=by
 simp[v'L];omega
def Zd0 (h:Int) (l:List Int):Int:=l.foldl (fun h b=>ZnO h (IntKind.u64.wrap b)) h
def ZeD (s:ByteArray):Nat→Int
 |0=>14695981039346656037
 |j+1=>Zd0 (ZeD s j) (v'L s (8*j))
def ZoP (s:ByteArray):Int:=
 let h:=ZnO (ZeD s ((s.size+7)/8)) (IntKind.u64.wrap (s.size:Nat))
 ZlL .u64 h (ZnZ .u64 h 29)
theorem ZkH: ∃F:ByteArray→Int,F=ZoP:=⟨_,rfl⟩
noncomputable def ZfZ:ByteArray→Int:=Classical.choose ZkH
theorem Zqx:ZfZ=ZoP:=Classical.choose_spec ZkH
theorem ZlZ {h:Int} {l:List Int} {i:Nat} {b:Int} (hb:l[i]?=some b):Zd0 h (l.take (i+1))=ZnO (Zd0 h (l.take i)) (IntKind.u64.wrap b):=by
 unfold Zd0
 rw[y'e,hb,y'Y,List.foldl_append]
 rfl
theorem ZlS (s:ByteArray) (k:Nat) (hk:k≤s.size):(Zaw (s.extract k s.size)).take (Nat.min (s.extract k s.size).size 8)++(List.replicate 8 (D.is (.int .u8 0))).drop (Nat.min (s.extract k s.size).size 8)=(v'L s k).map fun n=>D.is (.int .u8 n):=by
 have e1:(s.extract k s.size).size=s.size-k:=by simp
 have e2:(s.extract k s.size).data.toList=s.data.toList.drop k:=by
  rw[ByteArray.data_extract,Array.toList_extract,List.extract_eq_take_drop]
  exact z'5 (by simp)
 rw[e1]
 unfold v'L Zaw
 rw[e2,z'v,w'Z, ←List.map_take]
 congr 1
 ·rw[List.map_map]
  rcases Nat.le_total (s.size-k) 8 with h|h
  ·have:Nat.min (s.size-k) 8=s.size-k:=x'1 h
   rw[this,z'5 (by simp),z'5 (by simp;omega)]
   rfl
  ·have:Nat.min (s.size-k) 8=8:=Nat.min_eq_right h
   rw[this]
   rfl
 ·rw[List.drop_replicate]
  congr 1
  rcases Nat.le_total (s.size-k) 8 with h|h
  ·have:Nat.min (s.size-k) 8=s.size-k:=x'1 h
   rw[this]
  ·have:Nat.min (s.size-k) 8=8:=Nat.min_eq_right h
   rw[this];omega
theorem Zsd (s:ByteArray) (hs:s.size≤1000000):Pure Tryz.prog 295 [sD s] (.is (.int .u64 (ZfZ s))):=by
 rw[Zqx]
 refine Fun.of T [.tmp 2] Tryz.func295 rfl Tryz.ntmps295 Tryz.results295 rfl (by kernel_rfl) ?_
 repeat' first|refine vs T rfl fun K hK=>?_;(try simp (disch:=omega) only[go_sem]);(refine hK _ _ ?_;clear hK K)|refine st rfl ?_|refine nl ?_
 refine VC.loop {j:Nat//8*j<s.size+8} (fun j=>⟨y'd [(0,sD s),(3,.is (.int .u64 (ZeD s j.1))),(4,iD (8*j.1:Nat))],[]⟩) (fun j=>s.size+8-8*j.1) ⟨0,by omega⟩ ?_ ?_
 ·refine Weak.sub ?_
  simp[sub,upd,ZeD]
 rintro⟨j,hj⟩
 dsimp only
 rcases z'j (8*j) s.size with hlt|hge
 ·have hd:decide (((8*j:Nat):Int)<(s.size:Int))=true:=by simp;omega
  have hch:(Zaw (s.extract (8*j) s.size)).take ((s.extract (8*j) s.size).size.min 8)++[D.is (.int .u8 0),D.is (.int .u8 0),D.is (.int .u8 0),D.is (.int .u8 0),D.is (.int .u8 0),D.is (.int .u8 0),D.is (.int .u8 0),D.is (.int .u8 0)].drop ((s.extract (8*j) s.size).size.min 8)=(v'L s (8*j)).map fun n=>D.is (.int .u8 n):=ZlS s (8*j) (by omega)
  have hcl:=Znj s (8*j)
  have hct:((v'L s (8*j)).map fun n=>D.is (.int .u8 n)).take 8=(v'L s (8*j)).map fun n=>D.is (.int .u8 n):=z'5 (by rw[z'i,hcl];exact z'f _)
  repeat' first|refine vt rfl fun K hK=>?_;refine ZsB T rfl rfl rfl rfl hget_eq rfl (by decide) ?_;refine hK _ _ ?_;clear hK K;(try simp only[updO])|refine VCg.stepS T rfl rfl (Zpe T rfl rfl rfl) ?_|refine dr (id:=6) T 4 (by kernel_rfl) ?_|refine gn ?_|apply VCg.step T rfl rfl;focus((try simp (disch:=omega) only[go_sem,Nat.reduceBEq]);(first|exact rfl|refine⟨?_,rfl⟩;try omega))|refine vs T rfl fun K hK=>?_;(try simp (disch:=omega) only[go_sem,Nat.reduceBEq,Nat.reduceAdd,hd,hch,hct]);(first|refine hK _ _ ?_;clear hK K|intro bq hbq;(try simp only[HB]at hbq);refine hK _ _ ?_;clear hK K|refine⟨?_,hK _ _ ?_⟩<;>clear hK K;focus(try omega))|refine st rfl ?_|refine sc rfl ?_|refine nl ?_
  all_goals try omega
  refine VC.loop {i:Nat//i≤8} (fun i=>⟨y'd [(0,sD s),(3,.is (.int .u64 (Zd0 (ZeD s j) ((v'L s (8*j)).take i.1)))),(4,iD (8*j:Nat)),(19,.agg ((v'L s (8*j)).map fun n=>D.is (.int .u8 n))),(20,iD (i.1:Nat))],[]⟩) (fun i=>8-i.1) ⟨0,by omega⟩ ?_ ?_
  ·refine Weak.subH (z'a _) ?_
   simp[sub,upd,Zd0]
  rintro⟨i,hi⟩
  dsimp only
  rcases z'j i 8 with hl8|hg8
  ·have hd8:decide ((i:Int)<8)=true:=by simp;omega
   have hw8:IntKind.i64.wrap ((i:Int)+1)=((i+1:Nat):Int):=by rw[w64 (by omega)];omega
   obtain⟨b,hb⟩: ∃b,(v'L s (8*j))[i]?=some b:=⟨_,z'b (by omega)⟩
   have hbD:((v'L s (8*j)).map fun n=>D.is (.int .u8 n))[((i:Int)).toNat]?=some (D.is (.int .u8 b)):=by rw[z'q,z'J,hb];rfl
   repeat' first|refine vt rfl fun K hK=>?_;refine ZqZ T rfl rfl rfl rfl (by omega) hbD ?_;refine hK _ _ ?_;clear hK K;(try simp only[updO])|refine vt rfl fun K hK=>?_;refine ZrF rfl rfl rfl ?_;refine hK _ _ ?_;clear hK K;(try simp only[updO])|refine vs T rfl fun K hK=>?_;(try simp (disch:=omega) only[go_sem,Nat.reduceBEq,hd8,hw8]);(refine hK _ _ ?_;clear hK K)|refine st rfl ?_|refine sc rfl ?_|refine nl ?_
   refine⟨⟨i+1,by omega⟩,Weak.sub ?_,by dsimp only;omega⟩
   have:=ZlZ (h:=ZeD s j) hb
   simp[sub,upd,this,ZnO]
  ·have hd8:decide ((i:Int)<8)=false:=by simp;omega
   obtain rfl:i=8:=by omega
   have hw:IntKind.i64.wrap (((8*j:Nat):Int)+8)=((8*(j+1):Nat):Int):=by rw[w64 (by omega)];omega
   rw[z'5 (by omega)]
   repeat' first|refine vs T rfl fun K hK=>?_;(try simp (disch:=omega) only[go_sem,Nat.reduceBEq,hd8,hw]);(refine hK _ _ ?_;clear hK K)|refine st rfl ?_|refine sc rfl ?_|refine nl ?_
   refine⟨⟨j+1,by omega⟩,Weak.sub ?_,by dsimp only;omega⟩
   simp[sub,upd,ZeD]
 ·have hd:decide (((8*j:Nat):Int)<(s.size:Int))=false:=by simp;omega
  obtain rfl:j=(s.size+7)/8:=by omega
  repeat' first|refine vt rfl fun K hK=>?_;refine ZrF rfl rfl rfl ?_;refine hK _ _ ?_;clear hK K;(try simp only[updO])|refine vt rfl fun K hK=>?_;refine Zul rfl rfl rfl (by decide) ?_;refine hK _ _ ?_;clear hK K;(try simp only[updO])|refine vs T rfl fun K hK=>?_;(try simp (disch:=omega) only[go_sem,Nat.reduceBEq,hd]);(refine hK _ _ ?_;clear hK K)|refine st rfl ?_|refine sc rfl ?_|refine nl ?_|exact z'A T (z'a _) ⟨rfl,rfl⟩
def tRs (X:List ByteArray):List (List D):=X.map fun x=>[sD x]
abbrev ZlE (X:List ByteArray):D:= .sl false 1 (tRs X)
theorem ZiI (X:List ByteArray):(tRs X).length=X.length:=z'i ..
theorem Zt0 (X:List ByteArray) (i:Nat):(tRs X)[i]?=(X[i]?).map fun x=>[sD x]:=z'J ..
noncomputable abbrev hm0 (s:ByteArray):Nat:=ZhF (ZfZ s)
noncomputable abbrev posT (X:List ByteArray) (S:List Int) (s:ByteArray):Nat:=v'R X S (hm0 s) s
structure Zs6 (X:List ByteArray) (S:List Int) (k:Nat):Prop where
 len:S.length=2^k
 kk:4≤k∧k≤40
 free:0<S.count 0
 val: ∀v,v∈S→v=0∨ ∃i:Nat,i<X.length∧v=(i:Int)+1
 tl:X.length≤1000000
theorem ZtO {k:Nat} (h:4≤k∧k≤40):16≤2^k∧2^k≤1099511627776:=
 ⟨y'X (n:=2) (by decide) h.1,y'X (n:=2) (by decide) h.2⟩
theorem ZqU {h j m:Nat} (hm:0<m):((h+j) % m+1) % m=(h+(j+1)) % m:=by
 rw[Nat.mod_add_mod,Nat.add_assoc]
theorem Zmg (X:List ByteArray) (S:List Int) (k:Nat) (h:Zs6 X S k) (s:ByteArray) (hs:s.size≤1000000):Pure Tryz.prog 282 [.pt [ZlE X,y'c S],sD s] (iD (posT X S s:Nat)):=by
 have ch:=Zsd s hs
 obtain⟨b1,b2⟩:=ZtO h.kk
 have hlen:=h.len
 have hwm:IntKind.i64.wrap ((S.length:Int)-1)=((S.length:Int)-1):=by rw[w64 (by omega)]
 have hwu:IntKind.u64.wrap ((S.length:Int)-1)=((S.length:Int)-1):=by
  have:=ZlK (n:=S.length-1) (by omega)
  rwa [show((S.length-1:Nat):Int)=(S.length:Int)-1 by omega]at this
 have hmu:=Ztx (ZfZ s) (m:=S.length) hlen (by have:=h.kk;omega)
 have hm0':hm0 s % S.length<S.length:=x'Z _ (by omega)
 have hwp:IntKind.i64.wrap ((hm0 s % S.length:Nat):Int)=((hm0 s % S.length:Nat):Int):=by rw[w64 (by omega)]
 obtain⟨l1,l2,l3⟩:=Zgw (T:=X) (S:=S) (s:=s) (h:=hm0 s) h.free
 unfold posT hm0 at*
 generalize ZhF (ZfZ s)=q at*
 generalize ZfZ s=z at*
 refine Fun.of T [.tmp 4] Tryz.func282 rfl Tryz.ntmps282 Tryz.results282 rfl (by kernel_rfl) ?_
 repeat' first|refine vt rfl fun K hK=>?_;refine ZrA rfl rfl rfl ?_;refine hK _ _ ?_;clear hK K;(try simp only[updO])|refine vs T rfl fun K hK=>?_;(try simp (disch:=omega) only[go_sem,Nat.reduceBEq,z'I,hwm,hwu,hwp,hmu]);(first|refine hK _ _ ?_;clear hK K|refine Op1.callp rfl rfl (ch) rfl ?_;refine hK _ _ ?_;clear hK K)|refine st rfl ?_|refine nl ?_
 refine VC.loop {j:Nat//j≤x'2 X S (q) s} (fun j=>⟨y'd [(0,.pt [ZlE X,y'c S]),(1,sD s),(5,.is (.int .i64 ((S.length:Int)-1))),(6,iD ((q+j.1) % S.length:Nat))],[]⟩) (fun j=>x'2 X S (q) s-j.1) ⟨0,by omega⟩ ?_ ?_
 ·refine Weak.sub ?_
  simp[sub,upd]
 rintro⟨j,hj⟩
 dsimp only
 have hp:(q+j) % S.length<S.length:=x'Z _ (by omega)
 generalize hpp:(q+j) % S.length=p at*
 obtain⟨v,hv⟩: ∃v,S[p]?=some v:=⟨_,z'b hp⟩
 have rv:(iRs S)[p]?=some [iD v]:=by rw[x'7,hv];rfl
 have hval:=h.val v (z'l hv)
 have hend:x'8 X S s p=true→j=x'2 X S (q) s:=fun he=>by
  rcases z'j j (x'2 X S (q) s)with h'|h'
  ·have:=l3 j h'
   rw[hpp,he]at this
   cases this
  ·omega
 have hgo:x'8 X S s p=false→j<x'2 X S (q) s:=fun he=>by
  rcases z'j j (x'2 X S (q) s)with h'|h'
  ·exact h'
  ·obtain rfl:j=x'2 X S (q) s:=by omega
   have:v'R X S (q) s=p:=hpp
   rw[this,he]at l2
   cases l2
 rcases hval with rfl|⟨i,hi,rfl⟩
 ·have hjj:=hend (ZfD hv)
  have hpos:v'R X S q s=p:=by rw[←hpp,hjj];rfl
  have hd:decide ((0:Int)>0)=false:=by decide
  rw[hpos]
  repeat' first|refine dr (id:=3) T 24 (by kernel_rfl) ?_|refine gn ?_|(apply VCg.step T rfl rfl);focus((try simp (disch:=omega) only[go_sem,Nat.reduceBEq,z'I,hd,rv]);(first|exact rfl|refine⟨?_,rfl⟩;try omega))|refine VCg.gstep T rfl rfl rfl rfl ?_;try simp only[GB]|refine vs T rfl fun K hK=>?_;(try simp (disch:=omega) only[go_sem,Nat.reduceBEq]);(refine hK _ _ ?_;clear hK K)|refine st rfl ?_|refine sc rfl ?_|refine nl ?_|refine gs rfl rfl ?_|exact z'A T (z'a _) ⟨rfl,rfl⟩
 ·obtain⟨t,ht⟩: ∃t,X[i]?=some t:=⟨_,z'b hi⟩
  have rt:(tRs X)[i]?=some [sD t]:=by rw[Zt0,ht];rfl
  have hd:decide ((i:Int)+1>0)=true:=decide_eq_true (by omega)
  have hw1:IntKind.i64.wrap ((i:Int)+1-1)=(i:Int):=by
   have:=h.tl
   rw[w64 (by omega)];omega
  have hst2:x'8 X S s p=decide (t=s):=by rw[Zg4 hv,ht];simp
  by_cases hts:t=s
  ·have hx:decide (t=s)=true:=decide_eq_true hts
   have hjj:=hend (by rw[hst2,hx])
   have hpos:v'R X S q s=p:=by rw[←hpp,hjj];rfl
   rw[hpos]
   repeat' first|refine dr (id:=3) T 24 (by kernel_rfl) ?_|refine gn ?_|(first|apply VCg.step T rfl rfl|apply exF);focus((try simp (disch:=omega) only[go_sem,Nat.reduceBEq,z'I,ZiI,hd,rv,rt,hw1]);(first|exact rfl|refine⟨?_,rfl⟩;try omega))|refine VCg.gstep T rfl rfl rfl rfl ?_;try simp only[GB]|refine vs T rfl fun K hK=>?_;(try simp (disch:=omega) only[go_sem,Nat.reduceBEq,hx,z'E]);(refine hK _ _ ?_;clear hK K)|refine st rfl ?_|refine sc rfl ?_|refine nl ?_|refine gs rfl rfl ?_|exact z'A T (z'a _) ⟨rfl,rfl⟩
  ·have hx:decide (t=s)=false:=decide_eq_false hts
   have hjj:=hgo (by rw[hst2,hx])
   have hwp1:IntKind.i64.wrap ((p:Int)+1)=((p+1:Nat):Int):=by rw[w64 (by omega)];omega
   have hmi:=Ztw (a:=p+1) (m:=S.length) hlen (by have:=h.kk;omega) (by omega)
   repeat' first|refine vt rfl fun K hK=>?_;refine ZrA rfl rfl rfl ?_;refine hK _ _ ?_;clear hK K;(try simp only[updO])|refine dr (id:=3) T 24 (by kernel_rfl) ?_|refine gn ?_|(first|apply VCg.step T rfl rfl|apply exF);focus((try simp (disch:=omega) only[go_sem,Nat.reduceBEq,z'I,ZiI,hd,rv,rt,hw1]);(first|exact rfl|refine⟨?_,rfl⟩;try omega))|refine VCg.gstep T rfl rfl rfl rfl ?_;try simp only[GB]|refine vs T rfl fun K hK=>?_;(try simp (disch:=omega) only[go_sem,Nat.reduceBEq,hx,hwp1,hmi,z'O]);(refine hK _ _ ?_;clear hK K)|refine st rfl ?_|refine sc rfl ?_|refine nl ?_|refine gs rfl rfl ?_
   refine⟨⟨j+1,by omega⟩,Weak.sub ?_,by dsimp only;omega⟩
   have:=ZqU (h:=q) (j:=j) (m:=S.length) (by omega)
   rw[hpp]at this
   simp[sub,upd,this]
theorem Zrf (X:List ByteArray) (S:List Int) (h0:0<S.length):Pure Tryz.prog 281 [.pt [ZlE X,y'c S]] (bD true):=by
 have hd:decide ((S.length:Int)>0)=true:=by simp;omega
 refine Fun.of T [.tmp 2] Tryz.func281 rfl Tryz.ntmps281 Tryz.results281 rfl (by kernel_rfl) ?_
 repeat' first|refine vt rfl fun K hK=>?_;refine ZsF rfl (.inl ⟨_,rfl⟩) rfl (by kernel_rfl) ?_;refine hK _ _ ?_;clear hK K;(try simp only[updO])|refine vs T rfl fun K hK=>?_;(try simp (disch:=omega) only[go_sem,Nat.reduceBEq,z'I,hd]);(refine hK _ _ ?_;clear hK K)|refine st rfl ?_|refine nl ?_|refine gs rfl rfl ?_|exact z'A T (z'a _) ⟨rfl,rfl⟩
end Go.Proofs.YthlkpnjjkgmlkaaGreat
