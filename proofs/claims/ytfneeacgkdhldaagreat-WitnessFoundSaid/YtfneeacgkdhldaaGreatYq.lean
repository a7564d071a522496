/- Contracts: whether a configuration can be. No condition. -/
import Derived.Test.YtfneeacgkdhldaaGreatYo
import Derived.Test.YtfneeacgkdhldaaGreatXg
import Derived.Test.YtfneeacgkdhldaaGreatXe
import Derived.Test.YtfneeacgkdhldaaGreatK2
import Derived.Test.YtfneeacgkdhldaaGreatYc
import Derived.Test.YtfneeacgkdhldaaGreatYj
namespace Go.Proofs.YtfneeacgkdhldaaGreat
set_option maxHeartbeats 16000000
set_option linter.unusedSimpArgs false
set_option linter.unusedVariables false
set_option maxRecDepth 20000
open Go Go.Proofs Go.Vc
def Zfm (u:Un) (c:Cf) (m r:Int) (t:Nat):Bool:=
 decide (0≤c.pc.getD t 0)&&decide (c.pc.getD t 0<((u.code.getD t []).length:Int))&&decide (((c.regs.getD t []).length:Int)=u.regs.getD t 0)&&y'W (c.regs.getD t []) u.md&&v'M m r u.md u.init.length (c.bufs.getD t [])
def ZfH (u:Un) (c:Cf):Bool:=y't u&&decide (c.pc.length=u.regs.length)&&decide (c.regs.length=u.regs.length)&&decide (c.bufs.length=u.regs.length)&&decide (c.mem.length=u.init.length)&&y'W c.mem u.md
def w'M (u:Un) (c:Cf) (m r:Int):Bool:=ZfH u c&&((List.range u.regs.length).all fun t=>Zfm u c m r t)&&v'M m r u.md u.init.length []
mutual
def Wk:D→D→Prop
 | .sl full esz rows',d=>d= .sl full esz rows'∨(full=false∧((∃f rows,d= .sl f esz rows∧WkR rows' rows)∨(rows'=[]∧d= .gs none 0)))
 | .pt row',d=> ∃row,d= .pt row∧WkL row' row
 | .agg l',d=> ∃l,d= .agg l∧WkL l' l
 | .tup l',d=> ∃l,d= .tup l∧WkL l' l
 | .ifc t x',d=> ∃x,d= .ifc t x∧Wk x' x
 | .is v,d=>d= .is v
 | .gs g n,d=>d= .gs g n
 | .os b o n cap,d=>d= .os b o n cap
 | .any,d=>d= .any
termination_by structural d=>d
def WkL:List D→List D→Prop
 |[],l=>l=[]
 |d'::ds',l=> ∃d ds,l=d::ds∧Wk d' d∧WkL ds' ds
def WkR:List (List D)→List (List D)→Prop
 |[],l=>l=[]
 |r'::rs',l=> ∃r rs,l=r::rs∧WkL r' r∧WkR rs' rs
end
theorem Wk.one {d' d:D} (h:Wk d' d) (h1:oneD d=true):oneD d'=true:=by
 cases d' with
 |sl=>rfl
 |pt=>rfl
 |agg l'=>obtain⟨l,rfl,_⟩:=h;cases h1
 |tup l'=>obtain⟨l,rfl,_⟩:=h;cases h1
 |ifc t x'=>rfl
 |is v=>obtain rfl:d= .is v:=h;exact h1
 |gs g n=>rfl
 |os=>rfl
 |any=>obtain rfl:d= .any:=h;exact h1
theorem WkL.one: ∀{ds' ds:List D},WkL ds' ds→ds.all oneD=true→ds'.all oneD=true
 |[],_,_,_=>rfl
 |d'::ds',l,h,h1=>by
  obtain⟨d,ds,rfl,h2,h3⟩:=h
  rw[y'X,z'i]at h1
  rw[y'X,h2.one h1.1,h3.one h1.2];rfl
theorem WkL.len: ∀{ds' ds:List D},WkL ds' ds→ds'.length=ds.length
 |[],_,h=>by cases h;rfl
 |d'::ds',l,h=>by
  obtain⟨d,ds,rfl,h2,h3⟩:=h
  simp[h3.len]
theorem WkR.len: ∀{ds' ds:List (List D)},WkR ds' ds→ds'.length=ds.length
 |[],_,h=>by cases h;rfl
 |d'::ds',l,h=>by
  obtain⟨d,ds,rfl,h2,h3⟩:=h
  simp[h3.len]
mutual
theorem Rel.wk {w:World} {L:Nat→Prop}: ∀(d' d:D) (v:Value),Wk d' d→Rel w L d v→Rel w L d' v
 | .sl full esz rows',d,v,h,r=>by
  rcases h with rfl|⟨rfl,⟨f,rows,rfl,hr⟩|⟨rfl,rfl⟩⟩
  ·exact r
  ·obtain⟨a,cap,h1,h2,h3,h4⟩:=r
   refine⟨a,cap,by rw[hr.len];exact h1,by rw[hr.len];exact h2,fun h=>(by cases h),?_⟩
   rcases h4 with h4|⟨b,o,h5,h6⟩
   ·subst h4
    cases rows' with
    |nil=>exact .inl rfl
    |cons r rs=>obtain⟨_,_,e,_⟩:=hr;cases e
   ·exact .inr ⟨b,o,h5,RowsAt.wk esz rows' rows b o hr h6⟩
  ·obtain⟨rfl,_⟩:=r
   exact⟨none,0,rfl,⟨z'w _,fun _=>rfl⟩,fun h=>(by cases h),.inl rfl⟩
 | .pt row',d,v,h,r=>by
  obtain⟨row,rfl,hr⟩:=h
  obtain⟨b,o,h1,h2⟩:=r
  exact⟨b,o,h1,CellsAt.wk row' row b o hr h2⟩
 | .agg l',d,v,h,r=>by
  obtain⟨l,rfl,h⟩:=h
  obtain⟨h1,cs,rfl,hr⟩:=r
  exact⟨WkL.one h h1,cs,rfl,RelL.wk l' l _ h hr⟩
 | .tup l',d,v,h,r=>by
  obtain⟨l,rfl,h⟩:=h
  obtain⟨cs,rfl,hr⟩:=r
  exact⟨cs,rfl,RelL.wk l' l _ h hr⟩
 | .ifc t x',d,v,h,r=>by
  obtain⟨x,rfl,h⟩:=h
  obtain⟨y,rfl,hr⟩:=r
  exact⟨y,rfl,Rel.wk x' x y h hr⟩
 | .is u,d,v,h,r=>by obtain rfl:d= .is u:=h;exact r
 | .gs g n,d,v,h,r=>by obtain rfl:d= .gs g n:=h;exact r
 | .os b o n cap,d,v,h,r=>by obtain rfl:d= .os b o n cap:=h;exact r
 | .any,d,v,h,r=>trivial
theorem RelL.wk {w:World} {L:Nat→Prop}: ∀(l' l:List D) (vs:List Value),WkL l' l→RelL w L l vs→RelL w L l' vs
 |[],l,vs,h,r=>by obtain rfl:l=[]:=h;exact r
 |d'::ds',l,vs,h,r=>by
  obtain⟨d,ds,rfl,h1,h2⟩:=h
  obtain⟨v,rest,rfl,r1,r2⟩:=r
  exact⟨v,rest,rfl,Rel.wk d' d v h1 r1,RelL.wk ds' ds rest h2 r2⟩
theorem CellsAt.wk {w:World} {L:Nat→Prop}: ∀(l' l:List D) (b o:Nat),WkL l' l→CellsAt w L l b o→CellsAt w L l' b o
 |[],_,_,_,_,_=>trivial
 |d'::ds',l,b,o,h,r=>by
  obtain⟨d,ds,rfl,h1,h2⟩:=h
  obtain⟨q1,⟨q2,v,q3,q4⟩,q5⟩:=r
  exact⟨q1,⟨h1.one q2,v,q3,Rel.wk d' d v h1 q4⟩,CellsAt.wk ds' ds b (o+1) h2 q5⟩
theorem RowsAt.wk {w:World} {L:Nat→Prop} (esz:Nat): ∀(l' l:List (List D)) (b o:Nat),WkR l' l→RowsAt w L esz l b o→RowsAt w L esz l' b o
 |[],_,_,_,_,_=>trivial
 |r'::rs',l,b,o,h,r=>by
  obtain⟨r0,rs,rfl,h1,h2⟩:=h
  obtain⟨q1,q2,q3⟩:=r
  exact⟨by rw[h1.len];exact q1,CellsAt.wk r' r0 b o h1 q2,RowsAt.wk esz rs' rs b (o+esz) h2 q3⟩
end
theorem Pure.wk {P:Program} {f:FuncId} {args:List D} {d' d:D} (h:Pure P f args d) (hw:Wk d' d):Pure P f args d':=
 ⟨h.1,fun w L0 vs hi hr=>(h.2 w L0 vs hi hr).mono fun e w' ⟨v,he,d0,H',⟨h1,h2⟩,h3,h4,h5⟩=>⟨v,he,d',[],⟨rfl,rfl⟩,by subst h1;subst h2;exact Rel.wk _ _ _ hw h3,by subst h2;exact h4,by subst h2;exact h5⟩⟩
theorem ZdR {v:Value}:Wk (.is v) (.is v):=rfl
theorem Zke {e:Nat} {f:Bool} {rows' rows:List (List D)} (h:WkR rows' rows):Wk (.sl false e rows') (.sl f e rows):= .inr ⟨rfl,.inl ⟨f,rows,rfl,h⟩⟩
theorem Zeq {e:Nat}:Wk (.sl false e []) (.gs none 0):= .inr ⟨rfl,.inr ⟨rfl,rfl⟩⟩
theorem Zit {l' l:List D} (h:WkL l' l):Wk (.agg l') (.agg l):=⟨l,rfl,h⟩
theorem v'6 {d' d:D} {ds' ds:List D} (h:Wk d' d) (hs:WkL ds' ds):WkL (d'::ds') (d::ds):=⟨d,ds,rfl,h,hs⟩
theorem Zep:WkL [] []:=rfl
theorem Zfq {d' d:List D} {ds' ds:List (List D)} (h:WkL d' d) (hs:WkR ds' ds):WkR (d'::ds') (d::ds):=⟨d,ds,rfl,h,hs⟩
theorem Zgu:WkR [] []:=rfl
def Zqm:List Opc:=[(1,1,0)]
def opT:D:= .sl true 3 [[iD 1,iD 1,iD 0]]
attribute [local irreducible] y'5 VCg VCw VCx
theorem OpS.freeze {P:Program} {o:Oper} {E:Operand→D} {H:Heap} {Φ:D→Heap→Prop} {d':D} (h:OpS P o E H Φ) (hf: ∀d H',Φ d H'→ ∃Hk,H'=Hk++H∧Fz Hk d' d):OpS P o E H (fun d'' H''=>d''=d'∧H''=H):=by
 intro w L0 ε hi hx
 refine(h w L0 ε hi hx).mono fun v w' ⟨d,G',h1,h2,h3,h4⟩=>?_
 obtain⟨Hk,rfl,hz⟩:=hf d G' h1
 have hs:H.Sublist (Hk++H):=List.sublist_append_right _ _
 refine⟨d',H,⟨rfl,rfl⟩,?_,SubH.inv hs h3,SubH.evo hs h4⟩
 refine Rel.fz (H1:=Hk) (L:=live H L0) ⟨h3,fun b c hm=>⟨y'B _ hm,fun hl=>?_⟩,fun b _ hl=>hl.imp id (SubH.blocks hs b)⟩ d' d v hz h2
 rcases hl with hl|hl
 ·exact h3.apart b (z'y.2 ⟨(b,c),y'B _ hm,rfl⟩) hl
 ·exact Zec h3.nodup b (z'y.2 ⟨(b,c),hm,rfl⟩) hl
theorem Zm8 (n:Nat):ZaF n [.int .i64 0]=(List.replicate n (0:Int)).map iD:=by
 show(List.replicate n [iD 0]).flatten=_
 rw[v'z]
 induction n with
 |zero=>rfl
 |succ n ih=>rw[y'F,z'0,ih,y'F];rfl
theorem Zfe {o:Oper} {E:Operand→D} {H:Heap} {l c:Operand} {n:Nat} (ho:o.op= .makeSlice 22 l c) (hl:E l=iD (n:Nat)) (hc:E c=iD (n:Nat)) (hn:n≤1000000):
  OpS Tryz.prog o E H (fun d' H'=>d'=z'C (List.replicate n 0)∧H'=H):=by
 have hcm:cMake (kdT (T.get 22)) (E l) (E c) H (fun d H'=> ∃k,d= .gs (some (k,n)) n∧H'=(k,.cells 3 (n*1) ((List.replicate n 0).map iD))::H):=by
  rw[hl,hc]
  show cMake (.slice 3 1 8 false [.int .i64 0]) _ _ _ _
  refine⟨⟨by omega,rfl,by rw[z'f];omega,by omega,rfl⟩,fun k hk=>⟨k,by rw[z'f],?_⟩⟩
  rw[z'f,Zm8]
 obtain⟨Φ,h1,h2⟩:=ZfO T (E:=E) (H:=H) (K:=fun d H'=> ∃k,d= .gs (some (k,n)) n∧H'=(k,.cells 3 (n*1) ((List.replicate n 0).map iD))::H) ho hcm
 refine OpS.freeze (OpS.mono h1 h2) fun d H' ⟨k,q1,q2⟩=>⟨[(k,.cells 3 (n*1) ((List.replicate n 0).map iD))],q2,?_⟩
 rw[q1]
 have:=w'z (g:=some (k,n)) (e:=3) (s:=List.replicate n 0) (H:=[(k,.cells 3 (n*1) ((List.replicate n 0).map iD))]) (by show(List.replicate n 0).length≤n;simp) (fun b cap hb=>by cases hb;exact z'D ..)
 rwa [y'Z]at this
def x'l (u:Un):Cf:=⟨List.replicate u.regs.length 0,u.regs.map fun n=>List.replicate n.toNat 0,u.init,List.replicate u.regs.length []⟩
def Zbb (n:Int):D:=z'C (List.replicate n.toNat 0)
theorem ZeY {H:Heap}: ∀(l:List Int),FzR H 1 (y'V (l.map fun n=>List.replicate n.toNat 0)) (l.map Zbb)
 |[]=>trivial
 |n::l=>⟨rfl,⟨_,_,rfl,Fz.refl _ _,trivial⟩,ZeY l⟩
theorem Zf6 {H:Heap}: ∀n:Nat,FzR H 1 (y'Y (List.replicate n [])) (List.replicate n (.gs none 0))
 |0=>trivial
 |n+1=>⟨rfl,⟨_,_,rfl,y'q,trivial⟩,Zf6 n⟩
theorem ZdO {u:Un} (h:y't u=true) {t:Nat} {n:Int} (hn:u.regs[t]?=some n):0≤n∧n≤6:=by
 unfold y't at h
 simp only[z'i,z'I,z'G]at h
 have ht:=(z'c.1 hn).1
 have:=h.2 t ht
 simp only[v'D,z'i,decide_eq_true_eq]at this
 rw[z'e,hn]at this
 exact⟨this.1.1.1.1.1,this.1.1.1.1.2⟩
theorem ZmZ (u:Un) (hu:OkU u) (hU:y't u=true):Pure Tryz.prog 19 [.agg (unC u)] (.tup [.agg (cfC (x'l u)),iD 0]):=by
 have k1:=hu.ini
 have k2:=hu.reg
 have cu:=ZdF u hu
 rw[hU]at cu
 refine Fun.fz ?_
 refine Fun.of T [.cell 2 51,.tmp 3] Tryz.func19 rfl Tryz.ntmps19 Tryz.results19 rfl (by kernel_rfl) ?_
 repeat' first|refine vb rfl rfl rfl rfl ?_|refine vs T rfl fun K hK=>?_;(try simp (disch:=omega) only[go_sem,Nat.reduceBEq,Nat.reduceAdd,Nat.reduceLeDiff,z'l]);(first|refine hK _ _ ?_;clear hK K|intro bq hbq;(try simp only[HB]at hbq);refine hK _ _ ?_;clear hK K|refine Op1.callp rfl rfl (cu) rfl ?_;refine hK _ _ ?_;clear hK K)|refine st rfl ?_|refine sc rfl ?_|refine nl ?_
 rename_i b2 hb2
 revert bq
 intro b4 hb4
 refine VC.loop {p:Nat×G×G×G//p.1≤u.regs.length∧gOk p.2.1 p.1∧gOk p.2.2.1 p.1∧gOk p.2.2.2 p.1} (fun p=>⟨z'J [(1,.pt (unC u)),(2,.is (.pointer (some ⟨b2,0,none⟩))),(4,.is (.pointer (some ⟨b4,0,none⟩))),(5,iD (p.1.1:Nat))],(b4,.cells 51 4 [.gs p.1.2.1 p.1.1,.gs p.1.2.2.1 p.1.1,.gs none 0,.gs p.1.2.2.2 p.1.1])::(b2,.cells 51 4 [.gs none 0,.gs none 0,.gs none 0,.gs none 0])::shp p.1.2.1 3 1 (List.replicate p.1.1 (iD 0)) (shp p.1.2.2.1 22 1 ((u.regs.take p.1.1).map Zbb) (shp p.1.2.2.2 117 1 (List.replicate p.1.1 (.gs none 0)) []))⟩) (fun p=>u.regs.length-p.1.1) ⟨(0,none,none,none),by simp[gOk]⟩ ?_ ?_
 ·refine Weak.sub ?_
  simp[sub,upd]
 rintro⟨⟨t,gp,gr,gb⟩,ht,hgp,hgr,hgb⟩
 dsimp only at ht hgp hgr hgb⊢
 rcases z'g t u.regs.length with hlt|hge
 ·have hd:decide ((t:Int)<(u.regs.length:Int))=true:=by simp;omega
  have hw:IntKind.i64.wrap ((t:Int)+1)=((t+1:Nat):Int):=by rw[w64 (by omega)];omega
  obtain⟨n,hn⟩: ∃n,u.regs[t]?=some n:=⟨_,z'b hlt⟩
  have hn6:=ZdO hU hn
  obtain⟨k,rfl⟩: ∃k:Nat,n=(k:Int):=⟨n.toNat,by omega⟩
  have rn:(iRs u.regs)[t]?=some [iD (k:Nat)]:=by rw[y'Q,hn];rfl
  have hc1:(List.replicate t (iD 0)).length=t*1:=by simp
  have hc2:((u.regs.take t).map Zbb).length=t*1:=by rw[z's,z'F];omega
  have hc3:(List.replicate t (D.gs none 0)).length=t*1:=by simp
  repeat' first|refine VCg.stepS T rfl rfl (Zfe rfl rfl rfl (by omega)) ?_|refine dr (id:=8) T 9 (by kernel_rfl) ?_|refine gn ?_|apply VCg.step T rfl rfl;focus((try simp (disch:=omega) only[go_sem,Nat.reduceBEq,Nat.reduceMul,Nat.reduceLeDiff,rn,z'k]);(first|exact rfl|refine⟨?_,rfl⟩;try omega))|refine vs T rfl fun K hK=>?_;(try simp (disch:=omega) only[go_sem,Nat.reduceBEq,Nat.reduceAdd,Nat.reduceMul,Nat.reduceLeDiff,hd,hw,z'k]);(first|refine hK _ _ ?_;clear hK K|refine⟨_,_,_,_,(by repeat (first|exact Sp.here|apply Sp.cons|apply Sp.over)),?_,(by exact⟨rfl,rfl⟩),⟨by decide,?_⟩,fun g' hg'=>hK _ _ ?_⟩<;>clear hK K)|refine st rfl ?_|refine sc rfl ?_|refine nl ?_
  all_goals first|exact hc1|exact hc2|exact hc3|omega|skip
  rename_i ga hga gc hgc
  have z1:List.replicate (t+1) (iD 0)=List.replicate t (iD 0)++[iD 0]:=List.replicate_succ'
  have z2:(u.regs.take (t+1)).map Zbb=(u.regs.take t).map Zbb++[z'C (List.replicate k 0)]:=by
   rw[y'A,hn]
   simp[Zbb]
  have z3:List.replicate (t+1) (D.gs none 0)=List.replicate t (D.gs none 0)++[D.gs none 0]:=List.replicate_succ'
  refine⟨⟨(t+1,ga,gc,g'),by simp only[];exact⟨by omega,hga,hgc,hg'⟩⟩,z'v ?_ ?_,by simp only[];omega⟩
  ·simp only[]
   rw[z1,z2,z3]
  ·simp[sub,upd]
 ·have hd:decide ((t:Int)<(u.regs.length:Int))=false:=by simp;omega
  obtain rfl:t=u.regs.length:=by omega
  rw[z'X]
  repeat' first|refine vs T rfl fun K hK=>?_;(try simp (disch:=omega) only[go_sem,Nat.reduceBEq,Nat.reduceAdd,Nat.reduceLeDiff,hd,ZfE,z'k,z'T]);(first|refine hK _ _ ?_;clear hK K|refine⟨_,_,_,_,(by repeat (first|apply Sp.cons|exact Sp.nil)),?_,(by exact⟨rfl,rfl⟩),⟨by decide,?_⟩,fun g' hg'=>hK _ _ ?_⟩<;>clear hK K)|refine st rfl ?_|refine sc rfl ?_|refine nl ?_
  ·rfl
  ·omega
  have hb42: ¬b4=b2:=by
   intro h;simp_all
  refine x'g T rfl (by(try simp (disch:=omega) only[hget_ne,hget_eq]);rfl) rfl rfl rfl (z'p _) ?_
  refine⟨_,rfl,z't ⟨_,rfl,?_⟩ (FzL.refl _ _)⟩
  have m0: ∀{x:Nat×HC},x∈shp g' 3 1 (u.init.map iD) (shp gp 3 1 (List.replicate u.regs.length (iD 0)) (shp gr 22 1 (u.regs.map Zbb) (shp gb 117 1 (List.replicate u.regs.length (.gs none 0)) [])))→x∈((b4,HC.cells 51 4 [.gs gp u.regs.length,.gs gr u.regs.length,.gs g' u.init.length,.gs gb u.regs.length])::(b2,.cells 51 4 [.gs gp u.regs.length,.gs gr u.regs.length,.gs g' u.init.length,.gs gb u.regs.length])::shp g' 3 1 (u.init.map iD) (shp gp 3 1 (List.replicate u.regs.length (iD 0)) (shp gr 22 1 (u.regs.map Zbb) (shp gb 117 1 (List.replicate u.regs.length (.gs none 0)) [])))):=fun hx=>z'd _ (z'd _ hx)
  have f1:=fun(H:Heap) (hm: ∀b cap,gp=some (b,cap)→(b,HC.cells 3 (cap*1) ((List.replicate u.regs.length (0:Int)).map iD))∈H)=>w'z (g:=gp) (e:=3) (s:=List.replicate u.regs.length 0) (H:=H) (by rw[y'Z];exact hgp) hm
  simp only[y'Z]at f1
  refine z't (f1 _ fun b cap hb=>m0 (w'Q (by rw[hb,v'z];exact x'x))) (z't ?_ (z't ?_ (z't ?_ x'T)))
  ·exact v'G (e:=22) (l:=u.regs.map Zbb) (by rw[y'm];simp[x'l]) hgr (fun b cap hb=>m0 (w'Q (w'Q (by rw[hb];exact x'x)))) (ZeY u.regs)
  ·exact w'z (e:=3) (s:=u.init) hg' (fun b cap hb=>m0 (by rw[hb];exact x'x))
  ·exact v'G (e:=117) (l:=List.replicate u.regs.length (.gs none 0)) (by rw[z'Z];simp[x'l]) hgb (fun b cap hb=>m0 (w'Q (w'Q (w'Q (by rw[hb];exact x'x))))) (Zf6 _)
def ZlP (u:Un) (c:Cf) (m:Int) (i:Nat) (x:Ins) (row:List Int) (b:List En) (p:Nat) (en:Bool):Cf:=match en with
 |true=>y'R u (setP c i ((p+1:Nat):Int)) m i x row b
 |false=>c
def c10:Cf:=⟨[0,0],[[],[]],[0],[[],[]]⟩
end Go.Proofs.YtfneeacgkdhldaaGreat
