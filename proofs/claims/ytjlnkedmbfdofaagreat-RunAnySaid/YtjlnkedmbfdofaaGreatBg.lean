/- More operations: bits, shifts, arrays, own data that an operation only reads. No condition. -/
import Derived.Test.YtjlnkedmbfdofaaGreatWj
namespace Go.Proofs.YtjlnkedmbfdofaaGreat
set_option linter.unusedSimpArgs false
set_option linter.unusedVariables false
open Go Go.Proofs Go.Vc
attribute [local irreducible] z'Z VCg VCw VCx
theorem Op1.ofS {P:Program} {o:Oper} {E:Operand→D} {H:Heap} {d:D} {K:D→Heap→Prop} (h:OpS P o E H (fun d' H'=>d'=d∧H'=H)) (hk:K d H):Op1 P o E H K:=
 ⟨_,h,fun d' H' ⟨h1,h2⟩=>h1▸h2▸hk⟩
def Zg8 (k:IntKind) (x y:Int):Int:=k.wrap ((BitVec.ofInt k.bits x^^^BitVec.ofInt k.bits y).toNat:Nat)
theorem Zlz {P:Program} {o:Oper} {E:Operand→D} {H:Heap} {t u:TypeId} {x y:Operand} {k:IntKind} {a b:Int} {K:D→Heap→Prop} (ho:o.op= .binOp .xor t x y u) (ha:E x= .is (.int k a)) (hb:E y= .is (.int k b))
  (hk:K (.is (.int k (Zg8 k a b))) H):Op1 P o E H K:=by
 refine Op1.ofS (OpS.value fun w L0 ε hi hx=>?_) hk
 have h1:=hx x (by simp[ho,Op.operands])
 have h2:=hx y (by simp[ho,Op.operands])
 rw[ha]at h1;rw[hb]at h2
 have h1':ε x= .int k a:=h1
 have h2':ε y= .int k b:=h2
 have hg:(eqGuard .xor t x y (.int k a) (.int k b)).run P w= .ok () w:=z'U trivial
 refine⟨.int k (Zg8 k a b),?_,rfl⟩
 simp only[execOp,ho,h1',h2']
 rw[z'a (a:=Value.int k (Zg8 k a b)) (w':=w) (by rw[z'a hg];simp only[binOp,ne_eq,not_true_eq_false,if_false,Op.intBits];rfl)]
 rfl
def ZiY (k:IntKind) (x y:Int):Int:=x.fdiv (2^min y.toNat k.bits)
theorem Zn1 {P:Program} {o:Oper} {E:Operand→D} {H:Heap} {t u:TypeId} {x y:Operand} {k k':IntKind} {a b:Int} {K:D→Heap→Prop} (ho:o.op= .binOp .shr t x y u) (ha:E x= .is (.int k a)) (hb:E y= .is (.int k' b)) (h0:0≤b)
  (hk:K (.is (.int k (ZiY k a b))) H):Op1 P o E H K:=by
 refine Op1.ofS (OpS.value fun w L0 ε hi hx=>?_) hk
 have h1:=hx x (by simp[ho,Op.operands])
 have h2:=hx y (by simp[ho,Op.operands])
 rw[ha]at h1;rw[hb]at h2
 have h1':ε x= .int k a:=h1
 have h2':ε y= .int k' b:=h2
 have hg:(eqGuard .shr t x y (.int k a) (.int k' b)).run P w= .ok () w:=z'U trivial
 refine⟨.int k (ZiY k a b),?_,rfl⟩
 simp only[execOp,ho,h1',h2']
 rw[z'a (a:=Value.int k (ZiY k a b)) (w':=w) (by rw[z'a hg];simp only[binOp,Op.shift];rw[if_neg (by omega)];rfl)]
 rfl
theorem ZkW {P:Program} (T:Tab P) {o:Oper} {E:Operand→D} {H:Heap} {K:D→Heap→Prop} {t:TypeId} {x i:Operand} {n:Nat} {ik:IntKind} {m:Int} {l:List D} {d:D} (ho:o.op= .index t x i)
  (hk0:kdT (T.get t)= .array n 1 false) (hx0:E x= .agg l) (hi0:E i= .is (.int ik m)) (hm:0≤m∧m<n) (hd:l[m.toNat]?=some d) (hk:K d H):Op1 P o E H K:=by
 obtain⟨e,hu,hkn,hsz⟩:=Zb3 T hk0
 have hag:v'9 P e=false:=by
  unfold kdT at hk0
  cases hkn':(T.get t).known with
  |false=>rw[hkn']at hk0;cases hk0
  |true=>
   rw[hkn']at hk0
   obtain⟨d',i',z',h1,h2,h3,h4,_⟩:=T.facts hkn'
   simp only[h4]at hk0
   rw[hu]at h1
   cases h1
   simp only[y'0,hkn,Kd.array.injEq]at hk0
   exact hk0.2.2
 obtain⟨d1,inf,z,h1,h2,h3,h4,h5,_⟩:=y'g hkn
 rw[hsz]at h4
 refine Op1.ofS (d:=d) (OpS.value fun w L0 ε hi hx=>?_) hk
 have r1:=hx x (by simp[ho,Op.operands])
 have r2:=hx i (by simp[ho,Op.operands])
 rw[hx0,Rel]at r1;rw[hi0]at r2
 obtain⟨hone,cs,hv,hr⟩:=r1
 have r2':ε i= .int ik m:=r2
 obtain⟨v,q1,q2⟩:=RelL.get _ _ hr m.toNat d hd
 refine⟨v,?_,q2⟩
 have q1':cs[m.toNat]?=some v:=by simpa using q1
 simp only[execOp,ho,hv,r2',Instr.index]
 refine(z'a (a:=v) (w':=w) ?_).trans rfl
 refine(z'a (a:=(ik,m)) (w':=w) rfl).trans ?_
 simp only
 rw[z'a (run_underlying hu w)]
 simp only
 rw[if_pos hm,z'a (x'X h2 w),h4,y'l]
 unfold part
 rw[z'a (v'Z h1 w),show v'3 d1=false by rw[h5];exact hag]
 simp only[y'i,if_false,q1']
 rfl
theorem ZjR {P:Program} (T:Tab P) {o:Oper} {E:Operand→D} {H:Heap} {t:TypeId} {x:Operand} {n esz:Nat} {ea:Bool} {b:Nat} (ho:o.op= .slice t x none none none)
  (hk0:kdT (T.get t)= .array n esz ea) (hx0:E x= .is (.pointer (some ⟨b,0,none⟩))):OpS P o E H (fun d' H'=>d'= .gs (some (b,n)) n∧H'=H):=by
 obtain⟨e,hu,hkn,hsz⟩:=Zb3 T hk0
 obtain⟨d1,inf,z,h1,h2,h3,h4,_⟩:=y'g hkn
 refine OpS.value fun w L0 ε hi hx=>?_
 have r1:=hx x (by simp[ho,Op.operands])
 rw[hx0]at r1
 have r1':ε x= .pointer (some ⟨b,0,none⟩):=r1
 refine⟨.slice (some ⟨b,0,none⟩) n n,?_,rfl,z'c _⟩
 simp only[execOp,ho,r1',Instr.sliceAt,y't]
 refine(z'a (a:= .slice (some ⟨b,0,none⟩) n n) (w':=w) ?_).trans rfl
 rw[z'a (run_underlying hu w)]
 simp only
 refine(z'a (a:=(⟨b,0,none⟩:Addr)) (w':=w) rfl).trans ?_
 refine(z'a (a:=(0,n,n)) (w':=w) (by simp[Instr.sliceBounds,go_sem])).trans ?_
 simp only
 rw[z'a (x'X h2 w),w'i,Nat.sub_zero,w'm]
 split<;>rfl
def ZnQ (h:Int):Nat:=(BitVec.ofInt 64 h).toNat
abbrev u8D (c:UInt8):D:= .is (.int .u8 c.toNat)
abbrev w'd (s:ByteArray):List Value:=s.data.toList.map fun c=>Value.int .u8 c.toNat
abbrev w'P (s:ByteArray):List D:=s.data.toList.map u8D
theorem Zbu (s:ByteArray):(w'd s).length=s.size:=by simp[w'd]
theorem Zid (s:ByteArray):(w'P s).length=s.size:=by simp[w'P]
theorem ZgS {P:Program} (w:World) (dT sT ty elem:TypeId) {inf:TypeInfo} (g dLen dCap:Nat) (s:ByteArray) (cur:Array Value) (t:TypeId)
  (hu:P.underlying dT=some (.slice elem)) (hi:P.info? elem=some inf) (hg:w.heap[g]?=some (.cells cur t (0,0))) (hfit:Nat.min s.size dLen≤cur.size):
  (Builtin.copy_ #[dT,sT] ty #[.slice (some ⟨g,0,none⟩) dLen dCap,.string s]).run P w=
   .ok (goInt (Nat.min s.size dLen)) (w.setRow g ((w'd s).take (Nat.min s.size dLen)++cur.toList.drop (Nat.min s.size dLen)).toArray):=by
 have hl:((w'd s).take (Nat.min s.size dLen)).length=Nat.min s.size dLen:=by
  rw[z'z,Zbu]
  exact Nat.min_eq_left (Nat.min_le_left _ _)
 have hst:=run_storeCells_at P g 0 t ((w'd s).take (Nat.min s.size dLen)) 0 cur w hg (by rw[hl];simpa using hfit) (by
  intro v hv
  obtain⟨c,_,rfl⟩:=z'o.1 (y'L hv)
  rfl)
 rw[hl]at hst
 simp only[y'd,List.take_zero,z'L]at hst
 simp[Builtin.copy_,run_underlying hu,Builtin.lenOf,Builtin.firstCells,sizeOf,typeInfo,hi,hst]
theorem Zmg {P:Program} (T:Tab P) {o:Oper} {E:Operand→D} {H:Heap} {K:D→Heap→Prop} {x y:Operand} {t u:TypeId} {e esz eb:Nat} {ea:Bool} {ez:List Value} {b cap n k:Nat} {ty:TypeId} {l:List D} {s:ByteArray}
  (ho:o.op= .call ⟨.builtin .copy, #[x,y], #[t,u]⟩) (hkd:kdT (T.get t)= .slice e esz eb ea ez) (hx0:E x= .gs (some (b,cap)) n) (hy0:E y= .is (.string s)) (hb:y'Z H b=some (.cells ty k l)) (hl:l.length=k) (hn:n≤k)
  (hk:K (.is (.int .i64 (Nat.min s.size n:Nat))) (hset H b (.cells ty k ((w'P s).take (Nat.min s.size n)++l.drop (Nat.min s.size n))))):Op1 P o E H K:=by
 obtain⟨hu,hkn,hsz,_⟩:=y'J T hkd
 obtain⟨d,inf,z,_,hinf,_,h4,_⟩:=y'g hkn
 have hm:=y'H hb
 have hmn:Nat.min s.size n≤n:=Nat.min_le_right _ _
 have hms:Nat.min s.size n≤s.size:=Nat.min_le_left _ _
 have hrun0:=fun(w:World) (arr:Array Value) (hbb:w.heap[b]?=some (.cells arr ty (0,0))) (hnn:arr.size=k)=>ZgS (P:=P) w t u o.type e b n cap s arr ty hu hinf hbb (by omega)
 generalize Nat.min s.size n=m at*
 have hbm:b∈H.blocks:=z'o.2 ⟨_,hm,rfl⟩
 refine⟨fun d' H'=>d'= .is (.int .i64 (m:Nat))∧H'=hset H b (.cells ty k ((w'P s).take (m)++l.drop (m))),?_,fun _ _ ⟨h1,h2⟩=>h1▸h2▸hk⟩
 intro w L0 ε hi hx
 have h1:=hx x (by simp[ho,Op.operands,Call.operands])
 have h2:=hx y (by simp[ho,Op.operands,Call.operands])
 rw[hx0,Rel]at h1
 rw[hy0]at h2
 have h2':ε y= .string s:=h2
 obtain⟨hv,hcap⟩:=h1
 obtain⟨hl1,arr,hbb,hnn,hrel⟩:=hi.rel _ _ hm
 have hr:=hrun0 w arr hbb hnn
 have hrun:(execOp ε o).run P w= .ok (.value (goInt (m))) (w.setRow b ((w'd s).take (m)++arr.toList.drop (m)).toArray):=by
  simp only[execOp,ho,resolve,invoke,builtin]
  have hv':ε x= .slice (some ⟨b,0,none⟩) n cap:=hv
  simp[go_sem,hv',h2',hr]
 rw[hrun]
 have hlen:((w'P s).take (m)++l.drop (m)).length=k:=by
  rw[z'r,z'z,y'k,Zid]
  omega
 have hone:((w'P s).take (m)++l.drop (m)).all oneD=true:=by
  rw[List.all_append,w'o hl1,Bool.and_true]
  exact w'p (by rw[z'h];intro x hx;obtain⟨c,_,rfl⟩:=z'o.1 hx;rfl) _
 have hevo:Evo w H (w.setRow b ((w'd s).take (m)++arr.toList.drop (m)).toArray) (hset H b (.cells ty k ((w'P s).take (m)++l.drop (m)))):=Zac hbm _ (y'1 _ _ _)
 refine⟨_,_,⟨rfl,rfl⟩,rfl,?_,hevo⟩
 have hke:Keeps w (live H L0) (w.setRow b ((w'd s).take (m)++arr.toList.drop (m)).toArray) (live H L0):=fun k hk1 hn=>⟨setRow_other w b k _ (fun e=>hn (.inr (e▸hbm))),hn⟩
 refine HInv.set hi hbm (by simp[World.setRow]) (fun k hne hk1=>setRow_other w b k _ hne) ⟨hone,_,setRow_heap w b arr _ ty _ hbb,?_,?_⟩
 ·rw[List.size_toArray,z'r,z'z,y'k,Zbu,z'C]
  omega
 ·rw[hlen]
  simp only[]
  have e1:((w'd s).take (m)++arr.toList.drop (m)).take k=(w'd s).take (m)++arr.toList.drop (m):=z'O (by
   rw[z'r,z'z,y'k,Zbu,z'C]
   omega)
  rw[e1]
  rw[hl,z'O (by rw[z'C];omega)]at hrel
  refine RelL.append _ _ _ _ (RelL.take _ _ _ ?_) (RelL.mono hke _ _ (RelL.drop _ _ _ hrel))
  have:=Zao (w.setRow b ((w'd s).take (m)++arr.toList.drop (m)).toArray) (live H L0) (w'd s)
  rw[List.map_map]at this
  exact this
end Go.Proofs.YtjlnkedmbfdofaaGreat
