/- What a buffer lets go. No condition. -/
import Derived.Test.YthlkpnjjkgmlkaaGreatYk
import Derived.Test.YthlkpnjjkgmlkaaGreatK2
import Derived.Test.YthlkpnjjkgmlkaaGreatYla
import Derived.Test.YthlkpnjjkgmlkaaGreatXe
import Derived.Test.YthlkpnjjkgmlkaaGreatYf
namespace Go.Proofs.YthlkpnjjkgmlkaaGreat
set_option maxHeartbeats 16000000
set_option linter.unusedSimpArgs false
set_option linter.unusedVariables false
set_option maxRecDepth 20000
open Go Go.Proofs Go.Vc
attribute [local irreducible] x'c VCg VCw VCx
def Zay (c:Cf) (m t loc:Int):Cf:=match w't c m t loc with
 |true=>w'w (v'G c t.toNat (x'V m loc (c.bufs.getD t.toNat [])).1) (x'V m loc (c.bufs.getD t.toNat [])).2.1.1.toNat (x'V m loc (c.bufs.getD t.toNat [])).2.1.2
 |false=>c
def Zod (c:Cf):Prop:= ∀b,b∈c.bufs→ ∀e,e∈b→0≤e.1∧e.1<c.mem.length
theorem ZmM {m loc:Int} {b:List En} (h:(x'V m loc b).2.2=true):(x'V m loc b).2.1∈b:=by
 unfold x'V at h⊢
 cases hn:w'9 m loc b with
 |none=>rw[hn]at h;cases h
 |some k=>
  have hk:=ZkY hn
  simp only
  rw[z'b hk]
  exact List.getElem_mem hk
theorem cfz {q:OC} {c:Cf} (h:q.ok c) {H:Heap} (hm: ∀y,y∈q.h c []→y∈H) (v:Bool):Fz H (.tup [.agg (cfC c),bD v]) (.tup [.agg (q.cs c),bD v]):=
 ⟨_,rfl,z'4 ⟨_,rfl,OC.fzL (X:=[]) h hm⟩ (FzL.refl _ _)⟩
theorem Zp7 (c:Cf) (hc:OkC c) (hin:Zod c) (m t loc:Int):Pure Tryz.prog 344 [.agg (cfC c),iD m,iD t,iD loc] (.tup [.agg (cfC (Zay c m t loc)),bD (w't c m t loc)]):=by
 have cc:=ZdP c hc
 have cf:=Zhn c hc.buf m t loc
 refine Fun.fz ?_
 refine Fun.of T [.cell 8 69,.tmp 9] Tryz.func344 rfl Tryz.ntmps344 Tryz.results344 rfl (by kernel_rfl) ?_
 repeat' first|refine vb (t:=69) rfl rfl rfl rfl ?_|refine vs T rfl fun K hK=>?_;(try simp (disch:=omega) only[go_sem,Nat.reduceBEq,Nat.reduceAdd,Nat.reduceLeDiff]);(first|refine hK _ _ ?_;clear hK K|intro bq hbq;(try simp only[HB]at hbq);refine hK _ _ ?_;clear hK K|skip)|refine st rfl ?_|refine nl ?_
 refine Op1.callx rfl rfl cc rfl (fun q hq=>?_)
 refine hK _ _ ?_
 clear hK K
 refine vo ?_
 refine VCo.weak (Weak.perm (H':=(bq,.cells 69 4 [.gs none 0,.gs none 0,.gs none 0,.gs none 0])::q.h c []) (y'6 fun a=>by simp only[y'I,y'N,y'V];omega)) ?_
 revert bq
 intro b8
 cases hfl:w't c m t loc with
 |false=>
  rw[hfl]at cf
  have hfc:Zay c m t loc=c:=by simp[Zay,hfl]
  rw[hfc]
  repeat' first|refine vs T rfl fun K hK=>?_;(try simp (disch:=omega) only[go_sem,Nat.reduceBEq,Nat.reduceAdd,Nat.reduceLeDiff,OC.cs,z'O]);(first|refine hK _ _ ?_;clear hK K|intro bq hbq;(try simp only[HB]at hbq);refine hK _ _ ?_;clear hK K|refine Op1.callp rfl rfl (cf) rfl ?_;refine hK _ _ ?_;clear hK K)|refine st rfl ?_|refine sc rfl ?_|refine nl ?_|refine ov ?_
  exact w'N T rfl (by(try simp (disch:=omega) only[hget_ne,hget_eq]);rfl) rfl rfl rfl (z'w _) (cfz hq (fun y hy=>z'k _ (z'k _ hy)) false)
 |true=>
  rw[hfl]at cf
  have ht0:0≤t:=by
   rcases Int.lt_or_le t 0 with h|h
   ·simp[w't,v'j.2 h]at hfl
   ·exact h
  obtain⟨i,rfl⟩: ∃i:Nat,t=(i:Int):=⟨t.toNat,by omega⟩
  obtain⟨b,hb⟩: ∃b,c.bufs[i]?=some b:=by
   cases hb:c.bufs[i]? with
   |none=>simp[w't,hb]at hfl
   |some b=>exact⟨b,rfl⟩
  have hil:=(z'g.1 hb).1
  have kb:=hc.buf b (z'l hb)
  have hp2:(x'V m loc b).2.2=true:=by simpa[w't,hb]using hfl
  have hem:=hin b (z'l hb) _ (ZmM hp2)
  have rb:(x'6 c.bufs)[i]?=some [buf b]:=by rw[v'y,hb];rfl
  have cp:Pure Tryz.prog 346 [buf b,iD m,iD loc] (.tup [buf (x'V m loc b).1,.agg [iD (x'V m loc b).2.1.1,iD (x'V m loc b).2.1.2],bD (x'V m loc b).2.2]):=Zpg b (by omega) m loc
  have hfc:Zay c m (i:Nat) loc=w'w (v'G c i (x'V m loc b).1) (x'V m loc b).2.1.1.toNat (x'V m loc b).2.1.2:=by simp[Zay,hfl,z'd,hb]
  rw[hfc]
  have hq3:=OC.okM (OC.okB hq i (x'V m loc b).1) (x'V m loc b).2.1.1.toNat (x'V m loc b).2.1.2
  generalize (x'V m loc b)=pp at*
  obtain⟨b',⟨e1,e2⟩,is⟩:=pp
  simp only at hp2 hem cp hq3 hfc⊢
  obtain⟨gp,gr,gm,gb,rs⟩:=q
  rcases gb with _|⟨bb,capb⟩
  ·have h0:c.bufs.length=0:=hq.bufs
   omega
  rcases gm with _|⟨bm,capm⟩
  ·have h0:c.mem.length=0:=hq.mem
   omega
  refine VCo.weak (Weak.perm (H':=(b8,.cells 69 4 [.gs none 0,.gs none 0,.gs none 0,.gs none 0])::(bb,.cells 119 (capb*1) (c.bufs.map buf))::(bm,.cells 3 (capm*1) (c.mem.map iD))::shp gp 3 1 (c.pc.map iD) (shp gr 29 1 (rgC rs) (rgH rs []))) (y'6 fun a=>by simp only[OC.h,x'j,x'q,w'i,y'I,y'N,y'V];omega)) ?_
  refine VCo.nodup fun hn=>?_
  have n1: ¬b8=bb:=fun h=>by subst h;simp[Heap.blocks]at hn
  have n2: ¬b8=bm:=fun h=>by subst h;simp[Heap.blocks]at hn
  have n3: ¬bb=bm:=fun h=>by subst h;simp[Heap.blocks]at hn
  repeat' first|refine VC.drawS (id:=5) (by kernel_rfl) ?_|refine vs T rfl fun K hK=>?_;(try simp (disch:=omega) only[go_sem,Nat.reduceBEq,Nat.reduceAdd,Nat.reduceLeDiff,OC.cs,z'E,rb,y'u]);(first|refine hK _ _ ?_;clear hK K|intro bq hbq;(try simp only[HB]at hbq);refine hK _ _ ?_;clear hK K|refine⟨?_,hK _ _ ?_⟩<;>clear hK K;focus(try omega)|refine Op1.callp rfl rfl (cf) rfl ?_;refine hK _ _ ?_;clear hK K|refine Op1.callp rfl rfl (cp) rfl ?_;refine hK _ _ ?_;clear hK K)|refine st rfl ?_|refine sc rfl ?_|refine nl ?_|refine ov ?_
  rename_i hb8 b10 hb10
  have hpm:((OC.mk gp gr (some (bm,capm)) (some (bb,capb)) rs).h (w'w (v'G c i b') e1.toNat e2) []).Perm ((bb,.cells 119 (capb*1) ((c.bufs.map buf).set (i*1) (buf b')))::(bm,.cells 3 (capm*1) ((c.mem.map iD).set (e1.toNat*1) (iD e2)))::shp gp 3 1 (c.pc.map iD) (shp gr 29 1 (rgC rs) (rgH rs []))):=
   y'6 fun a=>by simp only[OC.h,w'w,v'G,z'K,x'd,x'j,x'q,w'i,y'I,y'N,y'V];omega
  refine VCd.groupW T ((bq,.cells 201 2 [iD e1,iD e2])::(b10,.cells 69 4 [.gs gp c.pc.length,.gs gr c.regs.length,.gs (some (bm,capm)) c.mem.length,.gs (some (bb,capb)) c.bufs.length])::(b8,.cells 69 4 [.gs none 0,.gs none 0,.gs none 0,.gs none 0])::(bb,.cells 119 (capb*1) ((c.bufs.map buf).set (i*1) (buf b')))::(bm,.cells 3 (capm*1) (c.mem.map iD))::shp gp 3 1 (c.pc.map iD) (shp gr 29 1 (rgC rs) (rgH rs []))) 11 12 12 rfl rfl rfl (by kernel_rfl) (by kernel_rfl) (by kernel_rfl) ?_
  repeat' first|apply VCw.step T rfl rfl (by rfl);(focus((try simp (disch:=omega) only[go_sem,Nat.reduceBEq]);(first|exact rfl|refine⟨?_,rfl⟩;try omega)));(focus(try simp (disch:=omega) only[go_sem,Nat.reduceBEq]));(focus(try omega))|refine VCw.write T rfl rfl (by rfl) ?_ ?_;focus((try simp (disch:=omega) only[go_sem,Nat.reduceBEq]);omega)|refine VCw.nil T ?_|refine VCd.tail (f:=12) (by kernel_rfl) ?_;(try simp only[y'j,y'a])|refine vs T rfl fun K hK=>?_;(try simp (disch:=omega) only[go_sem,Nat.reduceBEq,Nat.reduceAdd,Nat.reduceLeDiff]);(first|refine hK _ _ ?_;clear hK K|refine⟨?_,hK _ _ ?_⟩<;>clear hK K;focus(try omega))|refine st rfl ?_|refine nl ?_|refine ov ?_
  have hcs:(OC.mk gp gr (some (bm,capm)) (some (bb,capb)) rs).cs (w'w (v'G c i b') e1.toNat e2)=[.gs gp c.pc.length,.gs gr c.regs.length,.gs (some (bm,capm)) c.mem.length,.gs (some (bb,capb)) c.bufs.length]:=by simp[OC.cs,w'w,v'G]
  refine w'N T rfl (by(try simp (disch:=omega) only[hget_ne,hget_eq]);rfl) rfl rfl rfl (z'w _) ?_
  rw[←hcs]
  exact cfz hq3 (fun y hy=>z'k _ (z'k _ (z'k _ (hpm.mem_iff.1 hy)))) true
def Zat (u:Un) (c:Cf) (m r:Int) (t:Nat):Bool:=
 decide (0≤c.pc.getD t 0)&&decide (c.pc.getD t 0<((u.code.getD t []).length:Int))&&decide (((c.regs.getD t []).length:Int)=u.regs.getD t 0)&&y'E (c.regs.getD t []) u.md&&x'm m r u.md u.init.length (c.bufs.getD t [])
def v'W (u:Un) (c:Cf):Bool:=y'G u&&decide (c.pc.length=u.regs.length)&&decide (c.regs.length=u.regs.length)&&decide (c.bufs.length=u.regs.length)&&decide (c.mem.length=u.init.length)&&y'E c.mem u.md
def x'i (u:Un) (c:Cf) (m r:Int):Bool:=v'W u c&&((List.range u.regs.length).all fun t=>Zat u c m r t)&&x'm m r u.md u.init.length []
mutual
def Wk:D→D→Prop
 | .sl full esz rows',d=>d= .sl full esz rows'∨(full=false∧((∃f rows,d= .sl f esz rows∧WkR rows' rows)∨(rows'=[]∧d= .gs none 0)))
 | .pt row',d=> ∃row,d= .pt row∧WkL row' row
 | .agg l',d=> ∃l,d= .agg l∧WkL l' l
 | .tup l',d=> ∃l,d= .tup l∧WkL l' l
 | .ifc t x',d=> ∃x,d= .ifc t x∧Wk x' x
 | .is v,d=>d= .is v
 | .gs g n,d=>d= .gs g n
 | .os b o n cap,d=>d= .os b o n cap
 | .any,d=>d= .any
termination_by structural d=>d
def WkL:List D→List D→Prop
 |[],l=>l=[]
 |d'::ds',l=> ∃d ds,l=d::ds∧Wk d' d∧WkL ds' ds
def WkR:List (List D)→List (List D)→Prop
 |[],l=>l=[]
 |r'::rs',l=> ∃r rs,l=r::rs∧WkL r' r∧WkR rs' rs
end
theorem Wk.one {d' d:D} (h:Wk d' d) (h1:oneD d=true):oneD d'=true:=by
 cases d' with
 |sl=>rfl
 |pt=>rfl
 |agg l'=>obtain⟨l,rfl,_⟩:=h;cases h1
 |tup l'=>obtain⟨l,rfl,_⟩:=h;cases h1
 |ifc t x'=>rfl
 |is v=>obtain rfl:d= .is v:=h;exact h1
 |gs g n=>rfl
 |os=>rfl
 |any=>obtain rfl:d= .any:=h;exact h1
theorem WkL.one: ∀{ds' ds:List D},WkL ds' ds→ds.all oneD=true→ds'.all oneD=true
 |[],_,_,_=>rfl
 |d'::ds',l,h,h1=>by
  obtain⟨d,ds,rfl,h2,h3⟩:=h
  rw[y'q,z'c]at h1
  rw[y'q,h2.one h1.1,h3.one h1.2];rfl
theorem WkL.len: ∀{ds' ds:List D},WkL ds' ds→ds'.length=ds.length
 |[],_,h=>by cases h;rfl
 |d'::ds',l,h=>by
  obtain⟨d,ds,rfl,h2,h3⟩:=h
  simp[h3.len]
theorem WkR.len: ∀{ds' ds:List (List D)},WkR ds' ds→ds'.length=ds.length
 |[],_,h=>by cases h;rfl
 |d'::ds',l,h=>by
  obtain⟨d,ds,rfl,h2,h3⟩:=h
  simp[h3.len]
mutual
theorem Rel.wk {w:World} {L:Nat→Prop}: ∀(d' d:D) (v:Value),Wk d' d→Rel w L d v→Rel w L d' v
 | .sl full esz rows',d,v,h,r=>by
  rcases h with rfl|⟨rfl,⟨f,rows,rfl,hr⟩|⟨rfl,rfl⟩⟩
  ·exact r
  ·obtain⟨a,cap,h1,h2,h3,h4⟩:=r
   refine⟨a,cap,by rw[hr.len];exact h1,by rw[hr.len];exact h2,fun h=>(by cases h),?_⟩
   rcases h4 with h4|⟨b,o,h5,h6⟩
   ·subst h4
    cases rows' with
    |nil=>exact .inl rfl
    |cons r rs=>obtain⟨_,_,e,_⟩:=hr;cases e
   ·exact .inr ⟨b,o,h5,RowsAt.wk esz rows' rows b o hr h6⟩
  ·obtain⟨rfl,_⟩:=r
   exact⟨none,0,rfl,⟨z'f _,fun _=>rfl⟩,fun h=>(by cases h),.inl rfl⟩
 | .pt row',d,v,h,r=>by
  obtain⟨row,rfl,hr⟩:=h
  obtain⟨b,o,h1,h2⟩:=r
  exact⟨b,o,h1,CellsAt.wk row' row b o hr h2⟩
 | .agg l',d,v,h,r=>by
  obtain⟨l,rfl,h⟩:=h
  obtain⟨h1,cs,rfl,hr⟩:=r
  exact⟨WkL.one h h1,cs,rfl,RelL.wk l' l _ h hr⟩
 | .tup l',d,v,h,r=>by
  obtain⟨l,rfl,h⟩:=h
  obtain⟨cs,rfl,hr⟩:=r
  exact⟨cs,rfl,RelL.wk l' l _ h hr⟩
 | .ifc t x',d,v,h,r=>by
  obtain⟨x,rfl,h⟩:=h
  obtain⟨y,rfl,hr⟩:=r
  exact⟨y,rfl,Rel.wk x' x y h hr⟩
 | .is u,d,v,h,r=>by obtain rfl:d= .is u:=h;exact r
 | .gs g n,d,v,h,r=>by obtain rfl:d= .gs g n:=h;exact r
 | .os b o n cap,d,v,h,r=>by obtain rfl:d= .os b o n cap:=h;exact r
 | .any,d,v,h,r=>trivial
theorem RelL.wk {w:World} {L:Nat→Prop}: ∀(l' l:List D) (vs:List Value),WkL l' l→RelL w L l vs→RelL w L l' vs
 |[],l,vs,h,r=>by obtain rfl:l=[]:=h;exact r
 |d'::ds',l,vs,h,r=>by
  obtain⟨d,ds,rfl,h1,h2⟩:=h
  obtain⟨v,rest,rfl,r1,r2⟩:=r
  exact⟨v,rest,rfl,Rel.wk d' d v h1 r1,RelL.wk ds' ds rest h2 r2⟩
theorem CellsAt.wk {w:World} {L:Nat→Prop}: ∀(l' l:List D) (b o:Nat),WkL l' l→CellsAt w L l b o→CellsAt w L l' b o
 |[],_,_,_,_,_=>trivial
 |d'::ds',l,b,o,h,r=>by
  obtain⟨d,ds,rfl,h1,h2⟩:=h
  obtain⟨q1,⟨q2,v,q3,q4⟩,q5⟩:=r
  exact⟨q1,⟨h1.one q2,v,q3,Rel.wk d' d v h1 q4⟩,CellsAt.wk ds' ds b (o+1) h2 q5⟩
theorem RowsAt.wk {w:World} {L:Nat→Prop} (esz:Nat): ∀(l' l:List (List D)) (b o:Nat),WkR l' l→RowsAt w L esz l b o→RowsAt w L esz l' b o
 |[],_,_,_,_,_=>trivial
 |r'::rs',l,b,o,h,r=>by
  obtain⟨r0,rs,rfl,h1,h2⟩:=h
  obtain⟨q1,q2,q3⟩:=r
  exact⟨by rw[h1.len];exact q1,CellsAt.wk r' r0 b o h1 q2,RowsAt.wk esz rs' rs b (o+esz) h2 q3⟩
end
theorem Pure.wk {P:Program} {f:FuncId} {args:List D} {d' d:D} (h:Pure P f args d) (hw:Wk d' d):Pure P f args d':=
 ⟨h.1,fun w L0 vs hi hr=>(h.2 w L0 vs hi hr).mono fun e w' ⟨v,he,d0,H',⟨h1,h2⟩,h3,h4,h5⟩=>⟨v,he,d',[],⟨rfl,rfl⟩,by subst h1;subst h2;exact Rel.wk _ _ _ hw h3,by subst h2;exact h4,by subst h2;exact h5⟩⟩
theorem Zn9 {v:Value}:Wk (.is v) (.is v):=rfl
theorem Zuu {e:Nat} {f:Bool} {rows' rows:List (List D)} (h:WkR rows' rows):Wk (.sl false e rows') (.sl f e rows):= .inr ⟨rfl,.inl ⟨f,rows,rfl,h⟩⟩
theorem Zt5 {e:Nat}:Wk (.sl false e []) (.gs none 0):= .inr ⟨rfl,.inr ⟨rfl,rfl⟩⟩
theorem Zt4 {l' l:List D} (h:WkL l' l):Wk (.agg l') (.agg l):=⟨l,rfl,h⟩
theorem Zgg {d' d:D} {ds' ds:List D} (h:Wk d' d) (hs:WkL ds' ds):WkL (d'::ds') (d::ds):=⟨d,ds,rfl,h,hs⟩
theorem ZpG:WkL [] []:=rfl
theorem Zrl {d' d:List D} {ds' ds:List (List D)} (h:WkL d' d) (hs:WkR ds' ds):WkR (d'::ds') (d::ds):=⟨d,ds,rfl,h,hs⟩
theorem Zs3:WkR [] []:=rfl
theorem OpS.freeze {P:Program} {o:Oper} {E:Operand→D} {H:Heap} {Φ:D→Heap→Prop} {d':D} (h:OpS P o E H Φ) (hf: ∀d H',Φ d H'→ ∃Hk,H'=Hk++H∧Fz Hk d' d):OpS P o E H (fun d'' H''=>d''=d'∧H''=H):=by
 intro w L0 ε hi hx
 refine(h w L0 ε hi hx).mono fun v w' ⟨d,G',h1,h2,h3,h4⟩=>?_
 obtain⟨Hk,rfl,hz⟩:=hf d G' h1
 have hs:H.Sublist (Hk++H):=List.sublist_append_right _ _
 refine⟨d',H,⟨rfl,rfl⟩,?_,SubH.inv hs h3,SubH.evo hs h4⟩
 refine Rel.fz (H1:=Hk) (L:=live H L0) ⟨h3,fun b c hm=>⟨y'v _ hm,fun hl=>?_⟩,fun b _ hl=>hl.imp id (SubH.blocks hs b)⟩ d' d v hz h2
 rcases hl with hl|hl
 ·exact h3.apart b (z'p.2 ⟨(b,c),y'v _ hm,rfl⟩) hl
 ·exact Zi8 h3.nodup b (z'p.2 ⟨(b,c),hm,rfl⟩) hl
theorem Zrn (n:Nat):v'r n [.int .i64 0]=(List.replicate n (0:Int)).map iD:=by
 show(List.replicate n [iD 0]).flatten=_
 rw[w'Z]
 induction n with
 |zero=>rfl
 |succ n ih=>rw[y'o,z'R,ih,y'o];rfl
theorem Zk7 {o:Oper} {E:Operand→D} {H:Heap} {l c:Operand} {n:Nat} (ho:o.op= .makeSlice 29 l c) (hl:E l=iD (n:Nat)) (hc:E c=iD (n:Nat)) (hn:n≤1000000):
  OpS Tryz.prog o E H (fun d' H'=>d'=y'c (List.replicate n 0)∧H'=H):=by
 have hcm:cMake (kdT (T.get 29)) (E l) (E c) H (fun d H'=> ∃k,d= .gs (some (k,n)) n∧H'=(k,.cells 3 (n*1) ((List.replicate n 0).map iD))::H):=by
  rw[hl,hc]
  show cMake (.slice 3 1 8 false [.int .i64 0]) _ _ _ _
  refine⟨⟨by omega,rfl,by rw[z'q];omega,by omega,rfl⟩,fun k hk=>⟨k,by rw[z'q],?_⟩⟩
  rw[z'q,Zrn]
 obtain⟨Φ,h1,h2⟩:=ZhQ T (E:=E) (H:=H) (K:=fun d H'=> ∃k,d= .gs (some (k,n)) n∧H'=(k,.cells 3 (n*1) ((List.replicate n 0).map iD))::H) ho hcm
 refine OpS.freeze (OpS.mono h1 h2) fun d H' ⟨k,q1,q2⟩=>⟨[(k,.cells 3 (n*1) ((List.replicate n 0).map iD))],q2,?_⟩
 rw[q1]
 have:=v'l (g:=some (k,n)) (e:=3) (s:=List.replicate n 0) (H:=[(k,.cells 3 (n*1) ((List.replicate n 0).map iD))]) (by show(List.replicate n 0).length≤n;simp) (fun b cap hb=>by cases hb;exact z'n ..)
 rwa [y'i]at this
def x'n (u:Un):Cf:=⟨List.replicate u.regs.length 0,u.regs.map fun n=>List.replicate n.toNat 0,u.init,List.replicate u.regs.length []⟩
def Zha (n:Int):D:=y'c (List.replicate n.toNat 0)
theorem ZjM {H:Heap}: ∀(l:List Int),FzR H 1 (x'X (l.map fun n=>List.replicate n.toNat 0)) (l.map Zha)
 |[]=>trivial
 |n::l=>⟨rfl,⟨_,_,rfl,Fz.refl _ _,trivial⟩,ZjM l⟩
theorem Zl2 {H:Heap}: ∀n:Nat,FzR H 1 (x'6 (List.replicate n [])) (List.replicate n (.gs none 0))
 |0=>trivial
 |n+1=>⟨rfl,⟨_,_,rfl,w'v,trivial⟩,Zl2 n⟩
theorem Zh0 {u:Un} (h:y'G u=true) {t:Nat} {n:Int} (hn:u.regs[t]?=some n):0≤n∧n≤6:=by
 unfold y'G at h
 simp only[z'c,z'o,z'Q]at h
 have ht:=(z'g.1 hn).1
 have:=h.2 t ht
 simp only[Zcr,z'c,decide_eq_true_eq]at this
 rw[z'd,hn]at this
 exact⟨this.1.1.1.1.1,this.1.1.1.1.2⟩
def ZpM (u:Un) (c:Cf) (m:Int) (i:Nat) (x:Ins) (row:List Int) (b:List En) (p:Nat) (en:Bool):Cf:=match en with
 |true=>w'4 u (setP c i ((p+1:Nat):Int)) m i x row b
 |false=>c
def f10:Cf:=⟨[1,0],[[],[]],[1],[[],[]]⟩
theorem Zpa {u:Un} (h:Zo1 u=true):OkU u:=by
 simp only[Zo1,Zo0,ZoZ,z'c,decide_eq_true_eq,z'o]at h
 obtain⟨⟨⟨h1,h2⟩,h3⟩,h4⟩:=h
 exact⟨by omega,by omega,by omega,fun r hr=>by have:=(h4 r hr).1;omega,fun r hr x hx=>by have:=(h4 r hr).2 x hx;omega⟩
theorem Zi9 {c:Cf} (h:ZhN c=true):OkC c:=by
 simp only[ZhN,z'c,decide_eq_true_eq,z'o]at h
 obtain⟨⟨⟨⟨h1,h2⟩,h3⟩,h4⟩,h5,h6⟩:=h
 exact⟨by omega,by omega,by omega,fun r hr=>by have:=h5 r hr;omega,by omega,fun b hb=>by have:=h6 b hb;omega⟩
theorem Zjh {m r md lc:Int} {b:List En} (h:x'm m r md lc b=true) {e:En} (he:e∈b):0≤e.1∧e.1<lc∧0≤e.2∧e.2<md:=by
 simp only[x'm,z'c,z'o]at h
 obtain⟨i,hi⟩:=y'W he
 have:=h.1.2 i (z'Q.2 (z'g.1 hi).1)
 simp only[w'e,Ze0,hi,z'M,x'3,Bool.or_eq_false_iff,decide_eq_false_iff_not]at this
 omega
structure Rt (u:Un) (c:Cf) (m r:Int):Prop where
 okU:OkU u
 okC:OkC c
 rt:x'i u c m r=true
section
variable {u : Un} {c : Cf} {m r : Int}
theorem Rt.head (h:Rt u c m r):v'W u c=true:=by
 have:=h.rt;simp only[x'i,z'c]at this;exact this.1.1
theorem Rt.unit (h:Rt u c m r):y'G u=true:=by
 have:=h.head;simp only[v'W,z'c]at this;exact this.1.1.1.1.1
theorem Rt.lens (h:Rt u c m r):c.pc.length=u.regs.length∧c.regs.length=u.regs.length∧c.bufs.length=u.regs.length∧c.mem.length=u.init.length∧y'E c.mem u.md=true:=by
 have:=h.head;simp only[v'W,z'c,decide_eq_true_eq]at this
 exact⟨this.1.1.1.1.2,this.1.1.1.2,this.1.1.2,this.1.2,this.2⟩
theorem Rt.uhead (h:Rt u c m r):(2≤u.md∧u.md≤16)∧y'E u.init u.md=true∧u.init.length≤6∧(1≤u.regs.length∧u.regs.length≤4)∧u.code.length=u.regs.length:=by
 have:=h.unit;simp only[y'G,w'Y,z'c,decide_eq_true_eq]at this
 exact⟨⟨this.1.1.1.1.1.1.1,this.1.1.1.1.1.1.2⟩,this.1.1.1.1.1.2,this.1.1.1.1.2,⟨this.1.1.1.2,this.1.1.2⟩,this.1.2⟩
theorem Rt.thr (h:Rt u c m r) {t:Nat} (ht:t<u.regs.length):Zat u c m r t=true:=by
 have:=h.rt;simp only[x'i,z'c,z'o]at this
 exact this.1.2 t (z'Q.2 ht)
theorem Rt.tail (h:Rt u c m r):x'm m r u.md u.init.length []=true:=by
 have:=h.rt;simp only[x'i,z'c]at this;exact this.2
theorem Rt.row (h:Rt u c m r) {t:Nat} (ht:t<u.regs.length):Zcr (u.regs.getD t 0) u.init.length (u.code.getD t [])=true:=by
 have:=h.unit;simp only[y'G,z'c,z'o]at this
 exact this.2 t (z'Q.2 ht)
theorem Rt.gate (h:Rt u c m r):(1≤m∧m≤3)∧(1≤r∧r≤4):=by
 have:=h.tail;simp only[x'm,ZaH,z'c,decide_eq_true_eq]at this
 omega
theorem Rt.locs (h:Rt u c m r):Zod c:=by
 intro b hb e he
 obtain⟨i,hi⟩:=y'W hb
 have hl:=h.lens
 have hil:i<c.bufs.length:=(z'g.1 hi).1
 have ht:=h.thr (t:=i) (by omega)
 simp only[Zat,z'c,z'd,hi,z'M]at ht
 have:=Zjh ht.2 he
 omega
end
theorem ZqS {m loc:Int} {b:List En}:(x'V m loc b).1.length≤b.length:=by
 unfold x'V
 cases w'9 m loc b with
 |none=>simp
 |some k=>simp[ZaN];omega
theorem OkC.flush {c:Cf} (h:OkC c) (m t loc:Int):OkC (Zay c m t loc):=by
 unfold Zay
 cases hb:w't c m t loc with
 |false=>exact h
 |true=>
  refine⟨h.pc,by simpa[w'w,v'G]using h.mem,h.regs,h.row,by simpa[w'w,v'G]using h.bufs,fun b hb=>?_⟩
  simp only[w'w,v'G]at hb
  rcases List.mem_or_eq_of_mem_set hb with h'|rfl
  ·exact h.buf b h'
  ·refine z'3 ZqS ?_
   rw[z'd]
   cases he:c.bufs[t.toNat]? with
   |none=>simp
   |some x=>exact h.buf x (z'l he)
end Go.Proofs.YthlkpnjjkgmlkaaGreat
