/- A row of numbers of one's own, cleared. No condition. -/
import Derived.Test.YthlkpnjjkgmlkaaGreatK2
import Derived.Test.YthlkpnjjkgmlkaaGreatOf
import Derived.Test.YthlkpnjjkgmlkaaGreatFf
import Derived.Test.YthlkpnjjkgmlkaaGreatYla
import Derived.Test.YthlkpnjjkgmlkaaGreatYf
import Derived.Test.YthlkpnjjkgmlkaaGreatZr
namespace Go.Vc
set_option maxHeartbeats 16000000
set_option linter.unusedSimpArgs false
set_option linter.unusedVariables false
open Go
theorem Zob (n:Nat):(Builtin.zeroCells #[Value.int .i64 0] n).toList=List.replicate n (.int .i64 0):=by
 apply y'U
 intro i
 simp only[Builtin.zeroCells,Array.toList_map,Array.toList_range,z'J,List.getElem?_range',List.getElem?_replicate]
 by_cases h:i<n
 ·simp[h,Nat.mod_one]
 ·simp[h]
theorem RelL.zeros {w:World} {L:Nat→Prop}: ∀n:Nat,RelL w L (List.replicate n (D.is (.int .i64 0))) (List.replicate n (Value.int .i64 0))
 |0=>rfl
 |n+1=>⟨_,_,rfl,rfl,RelL.zeros n⟩
theorem Zsz {P:Program} {o:Oper} {E:Operand→D} {H:Heap} {K:D→Heap→Prop} {t e:TypeId} {x:Operand} {b cap n k:Nat} {ty:TypeId} {l:List D}
  (ho:o.op= .call ⟨.builtin .clear, #[x], #[t]⟩) (hu:P.underlying t=some (.slice e)) (hz:(P.info? e).bind (·.zero)=some (.int .i64 0)) (hx0:E x= .gs (some (b,cap)) n)
  (hg:y'0 H b=some (.cells ty k l)) (hl:l.length=n) (hk:K (.tup []) (hset H b (.cells ty k (List.replicate n (.is (.int .i64 0)))))):Op1 P o E H K:=by
 have hmem:=y'J hg
 have hbm:b∈H.blocks:=z'p.2 ⟨_,hmem,rfl⟩
 refine⟨fun d' H'=>d'= .tup []∧H'=hset H b (.cells ty k (List.replicate n (.is (.int .i64 0)))),?_,fun _ _ ⟨h1,h2⟩=>h1▸h2▸hk⟩
 intro w L0 ε hi hx
 have r1:=hx x (by simp[ho,Op.operands,Call.operands])
 rw[hx0,Rel]at r1
 obtain⟨r1,hnc⟩:=r1
 obtain⟨_,arr,hb,hsz,hrel⟩:=hi.rel _ _ hmem
 have hll:=RelL.length _ _ hrel
 simp only[z'y,z'P]at hll
 have hzr:(zeroValue e).run P w= .ok (.int .i64 0) w:=by
  cases hi':P.info? e with
  |none=>rw[hi']at hz;cases hz
  |some i=>
   rw[hi']at hz
   unfold zeroValue
   rw[z'e (v'F hi' w),show i.zero=some (.int .i64 0) from hz]
   rfl
 have ex: ∀(w':World),(Builtin.clear_ #[t] o.type #[ε x]).run P w= .ok (.tuple #[]) w'→(execOp ε o).run P w= .ok (.value (.tuple #[])) w':=by
  intro w' h
  simp only[execOp,ho,resolve,invoke,builtin]
  simp[h]
 by_cases hn:n=0
 ·subst hn
  have hl0:l=[]:=z'C hl
  subst hl0
  have hrun:(Builtin.clear_ #[t] o.type #[ε x]).run P w= .ok (.tuple #[]) w:=by
   rw[r1]
   unfold Builtin.clear_
   simp only[y'Q,y'B]
   rw[z'e (run_underlying hu w)]
   rfl
  rw[ex w hrun]
  refine⟨_,_,⟨rfl,rfl⟩,⟨_,rfl,rfl⟩,?_,?_⟩
  ·rw[List.replicate_zero,Zcf hg];exact hi
  ·rw[List.replicate_zero,Zcf hg];exact Evo.refl _ _
 ·have hfit:0+0+(List.replicate n (Value.int .i64 0)).length≤arr.size:=by rw[y'i];omega
  have hst:=run_storeCells_at P b 0 ty (List.replicate n (Value.int .i64 0)) 0 arr w hb hfit (fun v hv=>by rw[(List.mem_replicate.1 hv).2];rfl)
  simp only[x'B,x'F,z'H,y'i,y'p]at hst
  have hrun:(Builtin.clear_ #[t] o.type #[ε x]).run P w= .ok (.tuple #[]) (w.setRow b (List.replicate n (Value.int .i64 0)++arr.toList.drop n).toArray):=by
   rw[r1]
   unfold Builtin.clear_
   simp only[y'Q,y'B]
   rw[z'e (run_underlying hu w)]
   obtain⟨m,rfl⟩: ∃m,n=m+1:=⟨n-1,by omega⟩
   simp only[sv]
   rw[z'e hzr,show(Value.int .i64 0).cells= #[Value.int .i64 0] from rfl,Zob]
   exact(z'e hst).trans rfl
  rw[ex _ hrun]
  have hevo:Evo w H (w.setRow b (List.replicate n (Value.int .i64 0)++arr.toList.drop n).toArray) (hset H b (.cells ty k (List.replicate n (.is (.int .i64 0))))):=Zbh hbm _ (x'u _ _ _)
  refine⟨_,_,⟨rfl,rfl⟩,⟨_,rfl,rfl⟩,?_,hevo⟩
  refine HInv.set hi hbm (by simp[World.setRow]) (fun k hne hk1=>setRow_other w b k _ hne) ⟨?_,_,setRow_heap w b arr _ ty _ hb,?_,?_⟩
  ·rw[z'o]
   intro d hd
   rw[(List.mem_replicate.1 hd).2];rfl
  ·simp only[List.size_toArray,z'h,y'i,y'C,z'P];omega
  ·rw[y'i]
   show RelL _ _ _ (List.take n (List.replicate n (Value.int .i64 0)++arr.toList.drop n))
   rw[List.take_left' (y'i)]
   exact RelL.zeros n
theorem ZqX {P:Program} {o:Oper} {E:Operand→D} {H:Heap} {K:D→Heap→Prop} {t e:TypeId} {x:Operand}
  (ho:o.op= .call ⟨.builtin .clear, #[x], #[t]⟩) (hu:P.underlying t=some (.slice e)) (hx0:E x= .gs none 0) (hk:K (.tup []) H):Op1 P o E H K:=by
 refine Op1.value (d:= .tup []) (fun w L0 ε hi hx=>⟨.tuple #[],?_,⟨_,rfl,rfl⟩⟩) hk
 have r1:=hx x (by simp[ho,Op.operands,Call.operands])
 rw[hx0,Rel]at r1
 obtain⟨r1,_⟩:=r1
 have hrun:(Builtin.clear_ #[t] o.type #[ε x]).run P w= .ok (.tuple #[]) w:=by
  rw[r1]
  unfold Builtin.clear_
  simp only[y'Q,y'B]
  rw[z'e (run_underlying hu w)]
  rfl
 simp only[execOp,ho,resolve,invoke,builtin]
 simp[hrun]
end Go.Vc
/- Contracts: what a space ends with. No condition. -/
namespace Go.Proofs.YthlkpnjjkgmlkaaGreat
set_option maxHeartbeats 16000000
set_option linter.unusedSimpArgs false
set_option linter.unusedVariables false
set_option maxRecDepth 20000
open Go Go.Proofs Go.Vc
attribute [local irreducible] x'c VCg VCw VCx
def zpC (c:Cf):Cf:={c with pc:=List.replicate c.pc.length 0}
theorem OkC.zp {c:Cf} (h:OkC c):OkC (zpC c):=⟨by rw[zpC,y'i];exact h.pc,h.mem,h.regs,h.row,h.bufs,h.buf⟩
theorem OC.ok.zp {q:OC} {c:Cf} (h:q.ok c):q.ok (zpC c):=⟨by rw[zpC,y'i];exact h.pc,h.gr,h.mem,h.bufs,h.rows,h.row⟩
theorem OC.cs_zp (q:OC) (c:Cf):q.cs (zpC c)=q.cs c:=by simp only[OC.cs,zpC,y'i]
theorem OC.h_app (q:OC) (c:Cf) (X Y:Heap):q.h c X++Y=q.h c (X++Y):=by simp only[OC.h,Zan,ZiF]
theorem Zpf (q:OC) (c:Cf) (m y z:Nat×HC):(y::q.h c [z,m]).Perm (m::y::q.h c [z]):=y'6 fun a=>by simp only[OC.h,x'q,w'i,y'I,y'N,y'V];omega
def txC (c:Cf):ByteArray:=tx (Zga (zpC c))
theorem uI:Tryz.prog.underlying 29=some (.slice 3):=by kernel_rfl
theorem OpS.permR {P:Program} {o:Oper} {E:Operand→D} {H:Heap} {Φ Ψ:D→Heap→Prop} (h:OpS P o E H Φ) (hk: ∀d H',Φ d H'→ ∃H'',H'.Perm H''∧Ψ d H''):OpS P o E H Ψ:=by
 intro w L0 ε hi hx
 have:=h w L0 ε hi hx
 refine this.mono ?_
 rintro v w' ⟨d,H',h1,h2,h3,h4⟩
 obtain⟨H'',hp,hψ⟩:=hk d H' h1
 exact⟨d,H'',hψ,by rw[v'6 hp];exact h2,h3.perm hp,h4.perm (.refl _) hp⟩
theorem ZqY {o:Oper} {E:Operand→D} {X:Heap} {K:D→Heap→Prop} {x:Operand} {q:OC} {c:Cf} {y:Nat×HC} (ho:o.op= .call ⟨.builtin .clear, #[x], #[29]⟩) (hx0:E x= .gs q.gp c.pc.length) (hq:q.ok c)
  (hk:K (.tup []) (y::q.h (zpC c) X)):Op1 Tryz.prog o E (y::q.h c X) K:=by
 have hp: ∀c:Cf,(y::q.h c X).Perm (shp q.gp 3 1 (c.pc.map iD) (y::shp q.gr 29 1 (rgC q.rs) (shp q.gm 3 1 (c.mem.map iD) (shp q.gb 119 1 (c.bufs.map buf) (rgH q.rs X))))):=fun c=>
  y'6 fun a=>by simp only[OC.h,x'q,w'i,y'I,y'N,y'V];omega
 have hk':Op1 Tryz.prog o E (shp q.gp 3 1 (c.pc.map iD) (y::shp q.gr 29 1 (rgC q.rs) (shp q.gm 3 1 (c.mem.map iD) (shp q.gb 119 1 (c.bufs.map buf) (rgH q.rs X))))) (fun d H'=>d= .tup []∧H'=shp q.gp 3 1 ((zpC c).pc.map iD) (y::shp q.gr 29 1 (rgC q.rs) (shp q.gm 3 1 (c.mem.map iD) (shp q.gb 119 1 (c.bufs.map buf) (rgH q.rs X))))):=by
  cases hg:q.gp with
  |none=>
   have h0:c.pc.length=0:=by have:=hq.pc;rw[hg]at this;exact this
   rw[hg,h0]at hx0
   refine ZqX ho uI hx0 ⟨rfl,?_⟩
   simp only[shp]
  |some p=>
   rw[hg]at hx0
   refine Zsz ho uI zK3 hx0 hget_eq (by rw[z'i]) ⟨rfl,?_⟩
   simp only[shp,Vc.hset,beq_self_eq_true,cond_true,zpC,w'Z]
 refine Op1.perm (hp c) ?_
 obtain⟨Φ,h1,h2⟩:=hk'
 refine⟨fun d H'=>d= .tup []∧H'=y::q.h (zpC c) X,OpS.permR h1 fun d H' h=>?_,fun d H' h=>by rw[h.1,h.2];exact hk⟩
 obtain⟨rfl,rfl⟩:=h2 d H' h
 exact⟨_,(hp (zpC c)).symm,rfl,rfl⟩
theorem ZtQ {P:Program} {o:Oper} {E:Operand→D} {X:Heap} {K:D→Heap→Prop} {t u kt et:TypeId} {m x:Operand} {b c:Nat} {l:Km} {s:ByteArray}
  (ho:o.op= .call ⟨.builtin .delete, #[m,x], #[t,u]⟩) (hu:P.underlying t=some (.map kt et)) (hkt:P.underlying kt=some .string) (hm:E m= .is (.map (some b))) (hx0:E x= .is (.string s))
  (hk:K (.tup []) (kmH b c (Zak l s)::X)):Op1 P o E (kmH b c l::X) K:=
 ZsC ho hu hkt hm hx0 hget_eq (by simp only[kmH,Vc.hset,beq_self_eq_true,cond_true]at hk⊢;exact hk)
def Zcs (u:Un) (C:List Cf):List ByteArray:=(C.filter (Zbi u)).map txC
def ofF (u:Un) (C:List Cf):List ByteArray:=Zb2 (Zcs u C)
theorem Zus (u:Un) {C:List Cf} {k:Nat} (h:k<C.length) (hf:Zbi u (C.getD k default)=true):Zcs u (C.take (k+1))=Zcs u (C.take k)++[txC (C.getD k default)]:=by
 rw[y'e,v'p (d:=default) h,y'Y,Zcs,z'1,z'v]
 simp[Zcs,hf, -List.getD_eq_getElem?_getD]
theorem Zur (u:Un) {C:List Cf} {k:Nat} (h:k<C.length) (hf:Zbi u (C.getD k default)=false):Zcs u (C.take (k+1))=Zcs u (C.take k):=by
 rw[y'e,v'p (d:=default) h,y'Y,Zcs,z'1,z'v]
 simp[Zcs,hf, -List.getD_eq_getElem?_getD]
theorem Zjd (u:Un) (C:List Cf) (g:Cs) (pa ag:List Int) (hu:u.code.length≤1000000) (hC:C.length≤1000000) (hO: ∀c,c∈C→OkC c):Pure Tryz.prog 49 [.agg (unC u),.agg (spC C g pa ag)] (tlD (ofF u C)):=by
 refine Fun.freeze (ZiJ _) ?_
 refine Fun.of T [.tmp 4] Tryz.func49 rfl Tryz.ntmps49 Tryz.results49 rfl (by kernel_rfl) ?_
 repeat' first|refine vb (t:=32) rfl rfl rfl rfl ?_|refine vb (t:=57) rfl rfl rfl rfl ?_|refine vt rfl fun K hK=>?_;refine Zci rfl umK (fun x hx=>(by cases hx))<|fun bm hbm=>?_;refine hK _ _ ?_;clear hK K;(try simp only[updO])|refine vs T rfl fun K hK=>?_;(try simp (disch:=omega) only[go_sem,Nat.reduceBEq]);(refine hK _ _ ?_;clear hK K)|refine st rfl ?_|refine nl ?_
 refine VC.loop {p:Nat×Km×Nat//p.1≤C.length∧KmOk p.2.1 p.2.2 p.1∧ ∀t,t∈kmK p.2.1↔t∈Zcs u (C.take p.1)} (fun p=>⟨y'd [(2,.pt (unC u)),(5,mpD bm),(13,.sl false 4 (x'J C)),(14,iD (C.length:Nat)),(15,iD (p.1.1:Nat))],[kmH bm p.1.2.2 p.1.2.1]⟩) (fun p=>C.length-p.1.1) ⟨(0,[],0),y'f _,KmOk.nil,fun t=>by simp[kmK,Zcs]⟩ ?_ ?_
 ·refine z'S rfl ?_
  simp[sub,upd,mpD,x'J]
 rintro⟨⟨k,l,cl⟩,hk,hl,hm⟩
 dsimp only at hk hl hm⊢
 rcases z'j k C.length with hlt|hge
 ·generalize hcc:C.getD k default=c at*
  have hcO:OkC c:=hO c (hcc▸w'R hlt)
  have cf:=Zp3 u c hu (by have:=hcO.bufs;omega)
  cases hf:Zbi u c with
  |false=>
   rw[hf]at cf
   repeat' first|refine vs T rfl fun K hK=>?_;(try simp (disch:=omega) only[go_sem,Nat.reduceBEq,Nat.reduceAdd,Nat.reduceLeDiff,ZoV,hcc,w64,z'q]);(first|refine hK _ _ ?_;clear hK K|intro bq hbq;(try simp only[HB]at hbq);refine hK _ _ ?_;clear hK K|refine⟨?_,hK _ _ ?_⟩<;>clear hK K;focus(try omega)|refine Op1.callp rfl rfl (cf) rfl ?_;refine hK _ _ ?_;clear hK K)|refine st rfl ?_|refine sc rfl ?_|refine nl ?_|with_reducible refine z'B (fun hc=>?_) (fun hc=>?_)<;>(try simp only[decide_eq_true_eq,decide_eq_false_iff_not,z'F]at hc)<;>(try(exfalso;omega))
   refine⟨⟨(k+1,l,cl),by dsimp only;omega,⟨hl.keys,hl.born,hl.lt,fun x hx=>by have:=hl.val x hx;dsimp only;omega,by have:=hl.len;dsimp only;omega⟩,fun t=>?_⟩,x'g ?_ ?_,by dsimp only;omega⟩
   ·dsimp only
    rw[Zur u hlt (by rw[hcc];exact hf)];exact hm t
   ·rfl
   ·simp[sub,upd,mpD]
  |true=>
   rw[hf]at cf
   repeat' first|refine vs T rfl fun K hK=>?_;(try simp (disch:=omega) only[go_sem,Nat.reduceBEq,Nat.reduceAdd,Nat.reduceLeDiff,ZoV,hcc,z'q]);(first|refine hK _ _ ?_;clear hK K|intro bq hbq;(try simp only[HB]at hbq);refine hK _ _ ?_;clear hK K|refine⟨?_,hK _ _ ?_⟩<;>clear hK K;focus(try omega)|refine Op1.callp rfl rfl (cf) rfl ?_;refine hK _ _ ?_;clear hK K|skip)|refine st rfl ?_|refine sc rfl ?_|refine nl ?_|with_reducible refine z'B (fun hc=>?_) (fun hc=>?_)<;>(try simp only[decide_eq_true_eq,decide_eq_false_iff_not,z'F]at hc)<;>(try(exfalso;omega))
   refine Op1.callx rfl rfl (ZdP c hcO) rfl (fun q hq=>?_)
   refine hK _ _ ?_
   clear hK K
   rw[OC.h_app,z'H]
   repeat' first|refine vt rfl fun K hK=>?_;refine ZqY rfl rfl hq ?_;refine hK _ _ ?_;clear hK K;(try simp only[updO])|refine vs T rfl fun K hK=>?_;(try simp (disch:=omega) only[go_sem,Nat.reduceBEq,Nat.reduceAdd,Nat.reduceLeDiff,OC.cs]);(first|refine hK _ _ ?_;clear hK K|intro bq hbq;(try simp only[HB]at hbq);refine hK _ _ ?_;clear hK K|skip)|refine st rfl ?_|refine nl ?_
   have hfz: ∀(m y z:Nat×HC),FzL (m::y::q.h (zpC c) [z]) [.agg (cfC (zpC c))] [.agg (q.cs c)]:=fun m y z=>by
    refine z'4 ⟨_,rfl,?_⟩ v'o
    rw[←OC.cs_zp]
    refine OC.fzL (X:=[]) hq.zp fun x hx=>?_
    rw[show q.h (zpC c) [z]=q.h (zpC c) []++[z] by rw[OC.h_app];rfl]
    exact z'k _ (z'k _ (y'v _ hx))
   refine Op1.perm (Zpf q (zpC c) _ _ _) ?_
   refine Op1.lend rfl rfl (Zpw (zpC c) hcO.zp) (hfz _ _ _) (.inr rfl) ?_
   refine hK _ _ ?_
   clear hK K
   have hv:=ZkQ (s:=txC c) hl
   repeat' first|refine vt rfl fun K hK=>?_;refine ZeL (s:=txC c) rfl umK uK9 zK3 rfl rfl hget_eq ?_;refine hK _ _ ?_;clear hK K;(try simp only[updO])|refine vt rfl fun K hK=>?_;refine ZmQ (l:=l) (s:=txC c) rfl umK uK9 rfl rfl rfl hget_eq ?_;refine hK _ _ ?_;clear hK K;(try simp only[updO])|refine vs T rfl fun K hK=>?_;(try simp (disch:=omega) only[go_sem,Nat.reduceBEq,w64]);(refine hK _ _ ?_;clear hK K)|refine st rfl ?_|refine nl ?_
   refine⟨⟨(k+1,(v'X l cl (txC c)).1,(v'X l cl (txC c)).2),by dsimp only;omega,ZkP hl,fun t=>?_⟩,Weak.subH ?_ ?_,by dsimp only;omega⟩
   ·dsimp only
    rw[ZhL,Zus u hlt (by rw[hcc];exact hf),hcc,hm,z'W,z'V]
   ·simp only[kmH,Vc.hset,beq_self_eq_true,cond_true]
    exact List.Sublist.cons_cons _ (z'a _)
   ·simp[sub,upd,mpD]
 ·obtain rfl:k=C.length:=by omega
  rw[z'Y]at hm
  repeat' first|refine vs T rfl fun K hK=>?_;(try simp (disch:=omega) only[go_sem,Nat.reduceBEq]);(refine hK _ _ ?_;clear hK K)|refine st rfl ?_|refine sc rfl ?_|refine nl ?_|with_reducible refine z'B (fun hc=>?_) (fun hc=>?_)<;>(try simp only[decide_eq_true_eq,decide_eq_false_iff_not,z'F]at hc)<;>(try(exfalso;omega))
  refine VC.loop {p:Km×List ByteArray×Option (Nat×Nat)//KmOk p.1 cl C.length∧SL p.2.1∧(∀x,x∈p.2.1→ ∀y,y∈kmK p.1→bL x y=true)∧(∀t,t∈p.2.1∨t∈kmK p.1↔t∈Zcs u C)∧p.2.1.length+p.1.length≤l.length} (fun p=>⟨y'd [(5,mpD bm),(9,.gs p.1.2.2 p.1.2.1.length)],shp p.1.2.2 9 1 (p.1.2.1.map sD) [kmH bm cl p.1.1]⟩) (fun p=>p.1.1.length) ⟨(l,[],none),hl,List.Pairwise.nil,(fun x hx=>by cases hx),fun t=>by simpa using hm t,by simp⟩ ?_ ?_
  ·refine z'S rfl ?_
   simp[sub,upd,mpD]
  rintro⟨⟨l',out,g'⟩,hl',hS,hlt,hm',hn⟩
  dsimp only at hl' hS hlt hm' hn⊢
  have hln:=hl.len
  have hfl:=Zn4 out
  refine VC.nodup fun hnd=>?_
  have y'0:=Zru hnd
  rcases x'D l'.length with h0|hpos
  ·have hd:decide ((l'.length:Int)>0)=false:=by rw[h0];rfl
   repeat' first|refine vt rfl fun K hK=>?_;refine ZmS rfl umK rfl y'0 ?_;refine hK _ _ ?_;clear hK K;(try simp only[updO])|refine vs T rfl fun K hK=>?_;(try simp (disch:=omega) only[go_sem,Nat.reduceBEq,hd]);(refine hK _ _ ?_;clear hK K)|refine st rfl ?_|refine sc rfl ?_|refine nl ?_
   have hnil:l'=[]:=z'C h0
   have hout:out=ofF u C:=Zst hS fun t=>by rw[←hm'];subst hnil;simp[kmK]
   refine z'A T (H':=shp g' 9 1 (out.map sD) []) Zm4 ⟨g',9,?_,?_⟩
   ·rw[x'x, ←hout];rfl
   ·rw[Zg6, ←hout]
  ·have hd:decide ((l'.length:Int)>0)=true:=decide_eq_true (by omega)
   repeat' first|refine vt rfl fun K hK=>?_;refine ZmS rfl umK rfl y'0 ?_;refine hK _ _ ?_;clear hK K;(try simp only[updO])|refine vs T rfl fun K hK=>?_;(try simp (disch:=omega) only[go_sem,Nat.reduceBEq,hd]);(first|refine hK _ _ ?_;clear hK K|skip)|refine st rfl ?_|refine sc rfl ?_|refine nl ?_
   refine Op1.cally (Hp:=[kmH bm cl l']) (Hr:=shp g' 9 1 (out.map sD) []) rfl rfl (ZqC hl' bm) rfl (y'6 fun a=>by simp only[x'q,y'I,y'N,y'V];omega) (fun s hs=>?_)
   refine hK _ _ ?_
   clear hK K
   have hsm:s∈kmK l':=hs.mem fun e=>by
    have:=congrArg List.length e
    simp only[kmK,z'i,z'2]at this
    omega
   have hdl:=ZoX hsm
   rw[List.singleton_append]
   repeat' first|refine vt rfl fun K hK=>?_;refine ZtQ (l:=l') (s:=s) rfl umK uK9 rfl rfl ?_;refine hK _ _ ?_;clear hK K;(try simp only[updO])|refine vs T rfl fun K hK=>?_;(try simp (disch:=omega) only[go_sem,Nat.reduceBEq,Nat.reduceMul,Nat.reduceLeDiff]);(first|refine hK _ _ ?_;clear hK K|refine⟨_,_,_,_,(by repeat (first|exact Sp.here|apply Sp.cons)),?_,(by exact⟨rfl,rfl⟩),⟨by decide,?_⟩,fun g' hg'=>hK _ _ ?_⟩<;>clear hK K)|refine st rfl ?_|refine nl ?_
   ·exact hfl
   ·omega
   ·rename_i g0
    refine⟨⟨(Zak l' s,out++[s],g'),ZqA hl',hS.snoc fun x hx=>hlt x hx s hsm,?_,fun t=>?_,?_⟩,Weak.trans (Weak.perm (H':=shp g' 9 1 ((out++[s]).map sD) [kmH bm cl (Zak l' s)]) ?_) (z'S rfl ?_),hdl⟩
    ·intro x hx y hy
     obtain⟨hy1,hy2⟩:=(ZhJ hl' y).1 hy
     rcases z'W.1 hx with hx|hx
     ·exact hlt x hx y hy1
     ·rw[z'V]at hx
      subst hx
      cases hq:bL x y with
      |true=>rfl
      |false=>exact absurd (ZjR (hs.le y hy1) hq) hy2
    ·rw[←hm' t,z'W,z'V,ZhJ hl']
     constructor
     ·rintro((h|rfl)|h)
      ·exact .inl h
      ·exact .inr hsm
      ·exact .inr h.1
     ·rintro(h|h)
      ·exact .inl (.inl h)
      ·by_cases e:t=s
       ·exact .inl (.inr e)
       ·exact .inr ⟨h,e⟩
    ·dsimp only
     rw[z'h,List.length_singleton]
     omega
    ·rw[z'v]
     change (kmH bm cl (Zak l' s)::shp g' 9 1 (out.map sD++[sD s]) []).Perm _
     exact y'6 fun a=>by simp only[x'q,y'I,y'N,y'V,z'm,z'8];omega
    ·simp[sub,upd,mpD]
end Go.Proofs.YthlkpnjjkgmlkaaGreat
