/- Contracts: units that are alike; where rows end. No condition. -/
import Derived.Test.YthlkpnjjkgmlkaaGreatLu
import Derived.Test.YthlkpnjjkgmlkaaGreatXa
import Derived.Test.YthlkpnjjkgmlkaaGreatYi
import Derived.Test.YthlkpnjjkgmlkaaGreatYp
import Derived.Test.YthlkpnjjkgmlkaaGreatNh
import Derived.Test.YthlkpnjjkgmlkaaGreatQl
import Derived.Test.YthlkpnjjkgmlkaaGreatQm
import Derived.Test.YthlkpnjjkgmlkaaGreatQa
namespace Go.Proofs.YthlkpnjjkgmlkaaGreat
set_option maxHeartbeats 16000000
set_option linter.unusedSimpArgs false
set_option linter.unusedVariables false
set_option maxRecDepth 20000
open Go Go.Proofs Go.Vc
attribute [local irreducible] x'r VCg VCw VCx
theorem ZlL {e eb:Nat} {ea full:Bool} {ez:List Value} {l:List Ins} {k:IntKind} {n:Int} {K:D→Prop}:cIndexAddr (.slice e 7 eb ea ez) (.sl full 7 (y'Y l)) (.is (.int k n)) K=((0≤n∧n<l.length)∧K (.pt (insR (l.getD n.toNat default)))):=Zam insR default
theorem v'0 {e eb:Nat} {ea full:Bool} {ez:List Value} {l:List (List Ins)} {k:IntKind} {n:Int} {K:D→Prop}:cIndexAddr (.slice e 1 eb ea ez) (.sl full 1 (Zaj l)) (.is (.int k n)) K=((0≤n∧n<l.length)∧K (.pt [Zey (l.getD n.toNat [])])):=Zam (fun l=>[Zey l]) []
theorem ZtU (x:Opc):EqS Tryz.prog 90 [.int .i64 x.1,.int .i64 x.2.1,.int .i64 x.2.2] [.int .i64 x.1,.int .i64 x.2.1,.int .i64 x.2.2] true:=by
 refine⟨by kernel_rfl,fun w=>?_⟩
 obtain⟨a,b,c⟩:=x
 have u3:=Tryz.underlying3
 have a3:=Tryz.isAgg3
 have z3:=Tryz.sizeOf3
 have hS:Tryz.prog.underlying 90=some (.struct (Tryz.prog.fieldsOf 90)):=by kernel_rfl
 have hp:Tryz.prog.stoodInHeld 90=false:=by kernel_rfl
 rw[show(10000:Nat)=9999+1 from rfl,run_equalIn_agg w 9999 90 _ _ hS hp]
 simp only[Program.fieldsOf,Tryz.underlying90]
 go_simp
 try simp
theorem ZhA (l:List Opc) (hl:l.length≤1000000):Pure Tryz.prog 60 [y'0 l,y'0 l] (bD true):=by
 refine Fun.of T [.tmp 4] Tryz.func60 rfl Tryz.ntmps60 Tryz.results60 rfl (by kernel_rfl) ?_
 have e0:((l.length:Int) != (l.length:Int))=false:=by simp
 repeat' first|refine mq1 (mqt2 @y'q @e0) ?_|fail
 refine VC.loop {k:Nat//k≤l.length} (fun p=>⟨z'0 [(0,y'0 l),(1,y'0 l),(5,iD (p.1:Nat))],[]⟩) (fun p=>l.length-p.1) ⟨0,z'm _⟩ ?_ ?_
 ·refine Weak.sub ?_
  simp[sub,upd]
 rintro⟨k,hk⟩
 dsimp only at hk⊢
 rcases z'g k l.length with hlt|hge
 case inr=>
  have e1:decide ((k:Int)<(l.length:Int))=false:=decide_eq_false (by omega)
  repeat' first|refine mq1 (mqt2 @y'q @e1) ?_|exact z'r T (z'a _) ⟨rfl,rfl⟩|fail
 have e1:decide ((k:Int)<(l.length:Int))=true:=decide_eq_true (by omega)
 have eq1:=ZtU (l.getD k (0,0,0))
 repeat' first|refine dr (id:=6) T 8 (by kernel_rfl) ?_|apply VCg.step T rfl rfl;focus((try simp (disch:=omega) only[go_sem,Nat.reduceBEq,Nat.reduceAdd,Nat.reduceLeDiff,Zrm,opR,z'b]);(first|exact rfl|refine⟨?_,rfl⟩;try omega))|refine mq1 (mqt3 @y'q @w64 @e1) ?_|refine vs T rfl fun K hK=>?_;(try simp (disch:=omega) only[go_sem,Nat.reduceBEq,y'q,w64,e1,z'H]);(first|refine Op1.eqS rfl (eq1) rfl rfl rfl ?_;refine hK _ _ ?_;clear hK K)|fail
 refine⟨⟨k+1,by omega⟩,Weak.sub ?_,by dsimp only;omega⟩
 simp[sub,upd]
theorem ZhB (l:List Ins) (hl:l.length≤100000) (hx: ∀x,x∈l→x.e.length≤1000000∧x.f.length≤1000000):Pure Tryz.prog 17 [Zey l,Zey l] (bD true):=by
 refine Fun.of T [.tmp 4] Tryz.func17 rfl Tryz.ntmps17 Tryz.results17 rfl (by kernel_rfl) ?_
 have e0:((l.length:Int) != (l.length:Int))=false:=by simp
 repeat' first|refine mq1 (mqt2 @y'W @e0) ?_|fail
 refine VC.loop {k:Nat//k≤l.length} (fun p=>⟨z'0 [(0,Zey l),(1,Zey l),(5,iD (p.1:Nat))],[]⟩) (fun p=>l.length-p.1) ⟨0,z'm _⟩ ?_ ?_
 ·refine Weak.sub ?_
  simp[sub,upd]
 rintro⟨k,hk⟩
 dsimp only at hk⊢
 rcases z'g k l.length with hlt|hge
 case inr=>
  have e1:decide ((k:Int)<(l.length:Int))=false:=decide_eq_false (by omega)
  repeat' first|refine mq1 (mqt2 @y'W @e1) ?_|exact z'r T (z'a _) ⟨rfl,rfl⟩|fail
 have e1:decide ((k:Int)<(l.length:Int))=true:=decide_eq_true (by omega)
 have hxx:=hx _ (z'8 (d:=default) hlt)
 generalize hgx:l.getD k default=x at hxx
 have c1:=ZhA x.e hxx.1
 have c2:=ZhA x.f hxx.2
 have b1:(x.op != x.op)=false:=by simp
 have b2:(x.reg != x.reg)=false:=by simp
 have b3:(x.loc != x.loc)=false:=by simp
 have b4:(x.ne != x.ne)=false:=by simp
 have b5:(x.to != x.to)=false:=by simp
 repeat' first|refine mq2 (mqt12 @ZlL @y'W @insR.eq_1 @w64 @z'b @hgx @e1 @b1 @b2 @b3 @b4 @b5) (mqt2 c1 c2) ?_|refine mqn fun bq hbq=>?_|refine .wk ?_ ?_;focus(try omega)|fail
 refine⟨⟨k+1,by omega⟩,Weak.subH (z'a _) ?_,by dsimp only;omega⟩
 simp[sub,upd]
theorem Zli (u:Un) (hu:OkU u):Pure Tryz.prog 16 [.agg (unC u),.agg (unC u)] (bD true):=by
 have h1:=hu.ini
 have h2:=hu.reg
 have h3:=hu.cod
 have i1:Pure Tryz.prog 38 [w'H u.init,w'H u.init] (bD true):=by
  have:=ZfI u.init u.init (by omega) (by omega)
  rwa [decide_eq_true rfl]at this
 have i2:Pure Tryz.prog 38 [w'H u.regs,w'H u.regs] (bD true):=by
  have:=ZfI u.regs u.regs (by omega) (by omega)
  rwa [decide_eq_true rfl]at this
 refine Fun.of T [.tmp 4] Tryz.func16 rfl Tryz.ntmps16 Tryz.results16 rfl (by kernel_rfl) ?_
 have e0:(u.md != u.md)=false:=by simp
 have e2:((u.code.length:Int) != (u.code.length:Int))=false:=by simp
 repeat' first|refine vb (t:=32) rfl rfl rfl rfl ?_|refine mq2 (mqt3 @w'r @e0 @e2) (mqt2 i1 i2) ?_|fail
 refine VC.loop {k:Nat//k≤u.code.length} (fun p=>⟨z'0 [(2,.pt (unC u)),(3,.pt (unC u)),(5,iD (p.1:Nat))],[]⟩) (fun p=>u.code.length-p.1) ⟨0,z'm _⟩ ?_ ?_
 ·refine Weak.sub ?_
  simp[sub,upd]
 rintro⟨k,hk⟩
 dsimp only at hk⊢
 rcases z'g k u.code.length with hlt|hge
 case inr=>
  have e1:decide ((k:Int)<(u.code.length:Int))=false:=decide_eq_false (by omega)
  repeat' first|refine mq1 (mqt2 @w'r @e1) ?_|exact z'r T (z'a _) ⟨rfl,rfl⟩|fail
 have e1:decide ((k:Int)<(u.code.length:Int))=true:=decide_eq_true (by omega)
 have hm:=z'8 (d:=([]:List Ins)) hlt
 have c1:=ZhB (u.code.getD k []) (hu.row _ hm) fun x hx=>by have:=hu.ins _ hm x hx;omega
 repeat' first|refine dr (id:=6) T 10 (by kernel_rfl) ?_|(first|apply VCg.step T rfl rfl|apply exF);focus((try simp (disch:=omega) only[go_sem,Nat.reduceBEq,v'0,z'b]);(first|exact rfl|refine⟨?_,rfl⟩;try omega))|refine mq2 (mqt3 @w'r @w64 @e1) c1 ?_|fail
 refine⟨⟨k+1,by omega⟩,Weak.sub ?_,by dsimp only;omega⟩
 simp[sub,upd]
def Zfx (u:Un):List Int:=u.code.map fun r=>(r.length:Int)-1
theorem ZpG (u:Un) (hu:OkU u):Pure Tryz.prog 54 [.agg (unC u)] (w'H (Zfx u)):=by
 have h3:=hu.cod
 refine Fun.freeze (rows:=(Zfx u).map fun n=>[iD n]) (esz:=1) (fun r hr=>by obtain⟨x,_,rfl⟩:=z'w.1 hr;rfl) ?_
 refine Fun.of T [.tmp 2] Tryz.func54 rfl Tryz.ntmps54 Tryz.results54 rfl (by kernel_rfl) ?_
 repeat' first|refine vb (t:=32) rfl rfl rfl rfl ?_|refine mq1 @w'r ?_|fail
 refine VC.loop {q:Nat×Option (Nat×Nat)//q.1≤u.code.length∧gOk q.2 q.1} (fun q=>⟨z'0 [(3,.gs q.1.2 q.1.1),(7,.sl false 1 (Zaj u.code)),(8,iD (u.code.length:Nat)),(9,iD (q.1.1:Nat))],shp q.1.2 3 1 (((u.code.take q.1.1).map fun r=>(r.length:Int)-1).map iD) []⟩) (fun q=>u.code.length-q.1.1) ⟨(0,none),z'm _,rfl⟩ ?_ ?_
 ·refine z'O rfl ?_
  simp[sub,upd]
 rintro⟨⟨k,g⟩,hk,hg⟩
 dsimp only at hk hg⊢
 rcases z'g k u.code.length with hlt|hge
 case inr=>
  obtain rfl:k=u.code.length:=by omega
  rw[y'w]
  repeat' first|refine mq0 ?_|with_reducible refine z'j (fun hc=>?_) (fun hc=>?_)<;>(try simp only[decide_eq_true_eq,decide_eq_false_iff_not,z'x]at hc)<;>(try(exfalso;omega))|fail
  refine z'r T (z'n _) ⟨g,3,by simp[Zfx];rfl,?_⟩
  show _=shp g _ 1 ((Zfx u).map fun n=>[iD n]).flatten []
  rw[Zfx,show(((u.code.map fun r=>(r.length:Int)-1).map fun n=>[iD n]).flatten)=(u.code.map fun r=>(r.length:Int)-1).map iD by
   generalize u.code.map (fun r=>(r.length:Int)-1)=L
   induction L with
   |nil=>rfl
   |cons a L ih=>simp[ih]]
 have hm:=z'8 (d:=([]:List Ins)) hlt
 have hr:=hu.row _ hm
 have hT:((u.code.take (k+1)).map fun r=>(r.length:Int)-1)=((u.code.take k).map fun r=>(r.length:Int)-1)++[((u.code.getD k []).length:Int)-1]:=by rw[Zae [] hlt,z'A];rfl
 repeat' first|refine mq1 (mqt4 @v'0 @y'W @w64 @z'b) ?_|refine .wk ?_ ?_;focus(try omega)|refine vs T rfl fun K hK=>?_;(try simp (disch:=omega) only[go_sem,Nat.reduceBEq,Nat.reduceMul,Nat.reduceLeDiff,v'0,y'W,w64,z'b]);(first|refine⟨_,_,_,_,(by repeat (exact Sp.here)),?_,(by exact⟨rfl,rfl⟩),⟨by decide,?_⟩,fun g' hg'=>hK _ _ ?_⟩<;>clear hK K)|with_reducible refine z'j (fun hc=>?_) (fun hc=>?_)<;>(try simp only[decide_eq_true_eq,decide_eq_false_iff_not,z'x]at hc)<;>(try(exfalso;omega))|fail
 ·simp;omega
 ·omega
 ·refine⟨⟨(k+1,g'),by dsimp only;exact⟨by omega,hg'⟩⟩,z'O (by dsimp only;rw[hT,z'A];rfl) ?_,by dsimp only;omega⟩
  simp[sub,upd]
def pg7a:Pg:=⟨4,[⟨⟨#[120]⟩,1,7⟩],[⟨⟨#[116]⟩,[⟨#[97]⟩],[⟨11,⟨#[]⟩,⟨#[]⟩,[⟨10,0,⟨#[]⟩,⟨#[]⟩,44⟩,⟨2,0,⟨#[97]⟩,⟨#[]⟩,42⟩,⟨1,0,⟨#[]⟩,⟨#[]⟩,47⟩],[],false,2,0,36⟩,⟨3,⟨#[97]⟩,⟨#[120]⟩,[],[],false,0,0,51⟩,⟨13,⟨#[]⟩,⟨#[]⟩,[],[],false,0,0,63⟩,⟨10,⟨#[]⟩,⟨#[]⟩,[⟨2,0,⟨#[97]⟩,⟨#[]⟩,75⟩],[],false,1,1,72⟩,⟨1,⟨#[]⟩,⟨#[]⟩,[],[],false,0,0,79⟩,⟨8,⟨#[]⟩,⟨#[]⟩,[],[],false,0,0,94⟩],18⟩],[]⟩
def pg7b:Pg:=⟨1,[],[⟨⟨#[116]⟩,[],[],7⟩],[]⟩
def un7a:Un:=⟨4,[1],[1],[[⟨21,0,0,[(2,0,0),(1,0,0),(10,0,0)],[],false,4⟩,⟨3,0,0,[],[],false,0⟩,⟨20,0,0,[],[],false,4⟩,⟨20,0,0,[],[],false,0⟩,⟨21,0,0,[(2,0,0)],[],false,6⟩,⟨20,0,0,[],[],false,7⟩,⟨8,0,0,[],[],false,0⟩,⟨22,0,0,[],[],false,0⟩]]⟩
theorem ZtZ:mkU pg7a=un7a:=by kernel_rfl
theorem ZtR:y'3 pg7a=(0,0):=by kernel_rfl
theorem Zt0:mkU pg7b=⟨0,[],[],[]⟩:=by kernel_rfl
theorem ZtS:y'3 pg7b=(11,0):=by kernel_rfl
theorem Zt4:v'm pg7a:=⟨by decide,by decide,by decide,fun t ht=>by
 rw[show pg7a.ths=[pg7a.ths.getD 0 td0] from rfl,z'R]at ht
 subst ht
 refine⟨by decide,by decide,fun x hx=>?_⟩
 have h: ∀x,x∈(pg7a.ths.getD 0 td0).body→(decide (x.e.length≤1000)&&decide (x.f.length≤1000))=true:=z'l.1 (by kernel_rfl)
 have:=h x hx
 rw[z'd,decide_eq_true_eq,decide_eq_true_eq]at this
 exact this,fun c hc=>by cases hc⟩
theorem Zt5:v'm pg7b:=⟨by decide,by decide,by decide,fun t ht=>by
 rw[show pg7b.ths=[pg7b.ths.getD 0 td0] from rfl,z'R]at ht
 subst ht
 exact⟨by decide,by decide,fun x hx=>by cases hx⟩,fun c hc=>by cases hc⟩
theorem ZqK:OkU un7a:=⟨by decide,by decide,by decide,fun r hr=>by
 have h: ∀r,r∈un7a.code→decide (r.length≤100000)=true:=z'l.1 (by kernel_rfl)
 exact of_decide_eq_true (h r hr),fun r hr x hx=>by
 have h: ∀r,r∈un7a.code→r.all (fun x=>decide (x.e.length≤1000)&&decide (x.f.length≤1000))=true:=z'l.1 (by kernel_rfl)
 have:=z'l.1 (h r hr) x hx
 rw[z'd,decide_eq_true_eq,decide_eq_true_eq]at this
 exact this⟩
theorem Zud:Wk (.agg (pgC pg7a)) Zqy:=by
 repeat' (first|exact rfl|exact .inl rfl|exact .inr ⟨rfl,.inr ⟨rfl,rfl⟩⟩|refine .inr ⟨rfl,.inl ⟨_,_,rfl,?_⟩⟩|refine⟨_,_,rfl,?_,?_⟩|refine⟨_,rfl,?_⟩)
theorem Zue:Wk (.agg (pgC pg7b)) Zqz:=by
 repeat' (first|exact rfl|exact .inl rfl|exact .inr ⟨rfl,.inr ⟨rfl,rfl⟩⟩|refine .inr ⟨rfl,.inl ⟨_,_,rfl,?_⟩⟩|refine⟨_,_,rfl,?_,?_⟩|refine⟨_,rfl,?_⟩)
theorem Zhm:Pure Tryz.prog 13 [] (bD true):=by
 have p1:=Pure.wk Zt8 Zud
 have p2:=Pure.wk Zt9 Zue
 have m1:=ZeC pg7a Zt4
 have m2:=ZeC pg7b Zt5
 rw[ZtZ,ZtR]at m1
 rw[Zt0,ZtS]at m2
 have r1:=ZiQ un7a ZqK
 rw[show x'Q un7a=true by kernel_rfl]at r1
 have c1:=ZpG un7a ZqK
 rw[show Zfx un7a=[7] from rfl]at c1
 have j1:Pure Tryz.prog 38 [w'H [7],.sl true 1 [[iD 7]]] (bD true):=by
  have:=ZfI [7] [7] (by decide) (by decide)
  rw[decide_eq_true rfl]at this
  exact Fun.argsW this (y'f (Fz.refl _ _) (y'f ZqB Zak))
 have j2:Pure Tryz.prog 38 [w'H un7a.init,.sl true 1 [[iD 1]]] (bD true):=by
  have:=ZfI [1] [1] (by decide) (by decide)
  rw[decide_eq_true rfl]at this
  exact Fun.argsW this (y'f (Fz.refl _ _) (y'f ZqB Zak))
 have l1:(Zaj un7a.code).length=1:=rfl
 have l2:(y'Y (un7a.code.getD 0 [])).length=8:=rfl
 have l3:un7a.code.length=1:=rfl
 have l4:(un7a.code.getD 0 []).length=8:=rfl
 have g0:insR ((un7a.code.getD 0 []).getD 0 default)=[iD 21,iD 0,iD 0,y'0 [(2,0,0),(1,0,0),(10,0,0)],y'0 [],bD false,iD 4]:=rfl
 have g1:insR ((un7a.code.getD 0 []).getD 1 default)=[iD 3,iD 0,iD 0,y'0 [],y'0 [],bD false,iD 0]:=rfl
 have g2:insR ((un7a.code.getD 0 []).getD 2 default)=[iD 20,iD 0,iD 0,y'0 [],y'0 [],bD false,iD 4]:=rfl
 have g3:insR ((un7a.code.getD 0 []).getD 3 default)=[iD 20,iD 0,iD 0,y'0 [],y'0 [],bD false,iD 0]:=rfl
 have g4:insR ((un7a.code.getD 0 []).getD 4 default)=[iD 21,iD 0,iD 0,y'0 [(2,0,0)],y'0 [],bD false,iD 6]:=rfl
 have g5:insR ((un7a.code.getD 0 []).getD 5 default)=[iD 20,iD 0,iD 0,y'0 [],y'0 [],bD false,iD 7]:=rfl
 have g6:insR ((un7a.code.getD 0 []).getD 6 default)=[iD 8,iD 0,iD 0,y'0 [],y'0 [],bD false,iD 0]:=rfl
 have g7:insR ((un7a.code.getD 0 []).getD 7 default)=[iD 22,iD 0,iD 0,y'0 [],y'0 [],bD false,iD 0]:=rfl
 refine Fun.of T [.tmp 0] Tryz.func13 rfl Tryz.ntmps13 Tryz.results13 rfl (by kernel_rfl) ?_
 repeat' first|refine vs T rfl fun K hK=>?_;(try simp (disch:=omega) only[go_sem,Nat.reduceBEq,Nat.reduceAdd,Nat.reduceMul,Nat.reduceLeDiff,Int.reduceToNat,v'0,ZlL,l1,l2,l3,l4,g0,g1,g2,g3,g4,g5,g6,g7,bne_self_eq_false,beq_self_eq_true,Int.reduceLE]);(first|refine hK _ _ ?_;clear hK K|intro bq hbq;(try simp only[HB]at hbq);refine hK _ _ ?_;clear hK K|refine⟨?_,hK _ _ ?_⟩<;>clear hK K;focus(try omega)|refine Op1.callp rfl rfl (p1) rfl ?_;refine hK _ _ ?_;clear hK K|refine Op1.callp rfl rfl (p2) rfl ?_;refine hK _ _ ?_;clear hK K|refine Op1.callp rfl rfl (m1) rfl ?_;refine hK _ _ ?_;clear hK K|refine Op1.callp rfl rfl (m2) rfl ?_;refine hK _ _ ?_;clear hK K|refine Op1.callp rfl rfl (r1) rfl ?_;refine hK _ _ ?_;clear hK K|refine Op1.callp rfl rfl (c1) rfl ?_;refine hK _ _ ?_;clear hK K|refine Op1.callp rfl rfl (j1) rfl ?_;refine hK _ _ ?_;clear hK K|refine Op1.callp rfl rfl (j2) rfl ?_;refine hK _ _ ?_;clear hK K)|refine st rfl ?_|refine sc rfl ?_|refine nl ?_|refine gs rfl rfl ?_|exact z'r T (z'a _) ⟨rfl,rfl⟩
theorem Zgk (l:List Nod) (regs:List ByteArray):(cdT l regs).length≤200:=by
 unfold cdT mkE
 split
 ·rename_i h
  have he:=h.1
  have h1:=ZnJ he
  simp only[exB,z'd,decide_eq_true_eq]at he
  have:=Zac l (l.map fun x=>((lfT regs x)).getD (0,0,0)) l.length 0 l.length (by omega) h1
  simp only
  omega
 ·exact z'm _
def ShI (x:Ins):Prop:=x.e.length≤200∧x.f.length≤200
theorem ZkN (l:List Sm) (regs locs:List ByteArray): ∀(f a b h:Nat) (out:Int), ∀x,x∈rwF l regs locs f a b h out→ShI x
 |0,_,_,_,_,x,hx=>by cases hx
 |f+1,a,b,h,out,x,hx=>by
  have ih:=ZkN l regs locs f
  have hb: ∀n,ShI (brI (cdT (l.getD a sm0).e regs) n):=fun n=>⟨Zgk _ _,z'm _⟩
  have hj: ∀n,ShI (jpI n):=fun n=>⟨z'm _,z'm _⟩
  have hp:ShI (w'1 regs locs (l.getD a sm0)):=⟨Zgk _ _,Zgk _ _⟩
  unfold rwF at hx
  split at hx
  ·cases hx
  rcases z'X.1 hx with h1|h1
  ·unfold rw1 at h1
   split at h1
   ·cases h1
   split at h1
   ·rw[z'R]at h1;subst h1;exact hj _
   split at h1
   ·split at h1
    ·rcases z'v.1 h1 with rfl|h1
     ·exact hb _
     ·exact ih _ _ _ _ x h1
    ·rcases z'X.1 h1 with h1|h1
     ·rcases z'v.1 h1 with rfl|h1
      ·exact hb _
      ·exact ih _ _ _ _ x h1
     ·rcases z'v.1 h1 with rfl|h1
      ·exact hj _
      ·exact ih _ _ _ _ x h1
   split at h1
   ·rcases z'v.1 h1 with rfl|h1
    ·exact hb _
    rcases z'X.1 h1 with h1|h1
    ·exact ih _ _ _ _ x h1
    ·rw[z'R]at h1;subst h1;exact hj _
   split at h1
   ·rcases z'X.1 h1 with h1|h1
    ·exact ih _ _ _ _ x h1
    ·rw[z'R]at h1;subst h1;exact hj _
   ·rw[z'R]at h1;subst h1;exact hp
  ·exact ih _ _ _ _ x h1
theorem ZkX (l:List Sm) (regs locs:List ByteArray): ∀x,x∈thI l regs locs→ShI x:=fun x hx=>by
 rcases z'X.1 hx with h|h
 ·exact ZkN _ _ _ _ _ _ _ _ x h
 ·rw[z'R]at h;subst h;exact⟨z'm _,z'm _⟩
theorem ZkY {l:List Sm} (hB:smB l=true) (regs locs:List ByteArray):(thI l regs locs).length=szF l 0 l.length+1:=by
 rw[ZdZ,z'e,x'q l regs locs (Zbq hB).2.2.1 _ 0 l.length 0 0 (z'c _) (z'c _) (Zbq hB).2.1];rfl
theorem Znf {l:List Sm} (hB:smB l=true) (regs locs:List ByteArray):(thI l regs locs).length≤2*l.length+1:=by
 rw[ZkY hB]
 have:=ZdX l 0 l.length
 rw[z'5]at this
 omega
theorem Zod (p:Pg) (hp:v'm p):OkU (mkU p):=by
 unfold mkU
 split
 ·rename_i h
  have hB:=ZbW h
  refine⟨by rw[z'i];exact hp.locs,by rw[z'i];exact hp.ths,by rw[z'i];exact hp.ths,fun r hr=>?_,fun r hr x hx=>?_⟩
  ·obtain⟨t,ht,rfl⟩:=z'w.1 hr
   have:=Znf (Zbm hB ht) t.regs (lcN p)
   have:=(Zbq (Zbm hB ht)).1
   omega
  ·obtain⟨t,ht,rfl⟩:=z'w.1 hr
   have:=ZkX _ _ _ x hx
   exact⟨y'b this.1 (by omega),y'b this.2 (by omega)⟩
 ·exact⟨z'm _,z'm _,z'm _,(fun r h=>by cases h),(fun r h=>by cases h)⟩
theorem ZpF (p:Pg):Pure Tryz.prog 3 [.agg (pgC p)] (bD true):=by
 have ck:=Zhm
 have cl:=Zhr p
 refine Fun.of T [.tmp 2] Tryz.func3 rfl Tryz.ntmps3 Tryz.results3 rfl (by kernel_rfl) ?_
 cases hL:pgL p with
 |false=>
  rw[hL]at cl
  repeat' first|refine vb (t:=26) rfl rfl rfl rfl ?_|refine mq2 @pgC.eq_1 (mqt2 cl ck) ?_|exact z'r T (z'a _) ⟨rfl,rfl⟩|fail
 |true=>
 rw[hL]at cl
 have hO:=Zop hL
 have hl1:=hO.locs
 have hl2:=hO.ths
 have m1:=ZeC p hO
 have m2:=ZpN p hO
 have hU:=Zod p hO
 have u1:=Zli (mkU p) hU
 have b1:((y'3 p).1 != (y'3 p).1)=false:=by simp
 have b2:((y'3 p).2 != (y'3 p).2)=false:=by simp
 repeat' first|refine vb (t:=26) rfl rfl rfl rfl ?_|refine mq2 (mqt3 @pgC.eq_1 @b1 @b2) (mqt4 cl m1 m2 u1) ?_|refine mqn fun bq hbq=>?_|fail
 obtain⟨b6,rfl⟩: ∃b6,b6=bq:=⟨_,rfl⟩
 refine VC.loop {k:Nat//k≤p.ths.length} (fun x=>⟨z'0 [(1,.pt (pgC p)),(6,ptB b6),(7,iD (y'3 p).1),(9,iD (x.1:Nat))],[(b6,.cells 32 4 (unC (mkU p)))]⟩) (fun x=>p.ths.length-x.1) ⟨0,z'm _⟩ ?_ ?_
 ·refine Weak.subH (List.Sublist.cons_cons _ (z'a _)) ?_
  simp[sub,upd,pgC]
 rintro⟨k,hk⟩
 dsimp only at hk⊢
 by_cases hgo:k<p.ths.length∧(y'3 p).1=0
 case neg=>
  rcases z'g k p.ths.length with hlt|hge
  ·have e1:decide ((k:Int)<(p.ths.length:Nat))=true:=decide_eq_true (by omega)
   have e2:((y'3 p).1 == 0)=false:=beq_eq_false_iff_ne.2 fun h=>hgo ⟨hlt,h⟩
   repeat' first|refine mq2 (mqt4 @pgC.eq_1 @y'X @e1 @e2) ck ?_|exact z'r T (z'a _) ⟨rfl,rfl⟩|fail
  ·have e1:decide ((k:Int)<(p.ths.length:Nat))=false:=decide_eq_false (by omega)
   repeat' first|refine mq2 (mqt3 @pgC.eq_1 @y'X @e1) ck ?_|exact z'r T (z'a _) ⟨rfl,rfl⟩|fail
 obtain⟨hlt,h0⟩:=hgo
 have e1:decide ((k:Int)<(p.ths.length:Nat))=true:=decide_eq_true (by omega)
 have e2:((y'3 p).1 == 0)=true:=by rw[h0];rfl
 repeat' first|refine mq1 (mqt4 @pgC.eq_1 @y'X @e1 @e2) ?_|fail
 refine VC.loop {x:Nat×Option (Nat×Nat)//x.1≤p.locs.length∧gOk x.2 x.1} (fun x=>⟨z'0 [(1,.pt (pgC p)),(6,ptB b6),(7,iD (y'3 p).1),(9,iD (k:Nat)),(10,.gs x.1.2 x.1.1),(11,iD (x.1.1:Nat))],shp x.1.2 9 1 (v'f ((p.locs.take x.1.1).map (·.nm))).flatten [(b6,.cells 32 4 (unC (mkU p)))]⟩) (fun x=>p.locs.length-x.1.1) ⟨(0,none),z'm _,rfl⟩ ?_ ?_
 ·refine z'O rfl ?_
  simp[sub,upd,pgC]
 rintro⟨⟨j,g⟩,hj,hg⟩
 dsimp only at hj hg⊢
 rcases z'g j p.locs.length with hjl|hjg
 ·have hT:=Zdh (f:=(·.nm)) lv0 hjl
  have e3:decide ((j:Int)<(p.locs.length:Nat))=true:=decide_eq_true (by omega)
  repeat' first|refine mq1 (mqt7 @w'U @x'B @lvR.eq_1 @pgC.eq_1 @w64 @z'b @e3) ?_|refine .wk ?_ ?_;focus(try omega)|refine vs T rfl fun K hK=>?_;(try simp (disch:=omega) only[go_sem,Nat.reduceBEq,Nat.reduceMul,Nat.reduceLeDiff,w'U,x'B,lvR,pgC,w64,z'b,e3]);(first|refine⟨_,_,_,_,(by repeat (exact Sp.here)),?_,(by exact⟨rfl,rfl⟩),⟨by decide,?_⟩,fun g' hg'=>hK _ _ ?_⟩<;>clear hK K)|fail
  ·rw[v'f,w'e (f:=fun s=>[sD s]) (fun _=>rfl),z'i,z'T,v'G (by omega)]
  ·omega
  ·refine⟨⟨(j+1,g'),by dsimp only;exact⟨by omega,hg'⟩⟩,z'O (by dsimp only;rw[hT];unfold v'f;rw[w'u]) ?_,by dsimp only;omega⟩
   simp[sub,upd,pgC]
 obtain rfl:j=p.locs.length:=by omega
 rw[y'w]
 have hm:=z'8 (d:=td0) hlt
 have hTd:=hO.td _ hm
 have c3:=Zhn (p.ths.getD k td0).body hTd.2 (Zbm (ZbW h0) hm) (p.ths.getD k td0).regs (lcN p) hTd.1 (by rw[Za1];omega) (Zlq _ hTd.1) (Zqv h0 hm)
 have hrow:=ZkX (p.ths.getD k td0).body (p.ths.getD k td0).regs (lcN p)
 have hsz:=Znf (Zbm (ZbW h0) hm) (p.ths.getD k td0).regs (lcN p)
 have hbl:=(Zbq (Zbm (ZbW h0) hm)).1
 have c4:=ZhB (thI (p.ths.getD k td0).body (p.ths.getD k td0).regs (lcN p)) (by omega) fun x hx=>by have:=hrow x hx;unfold ShI at this;omega
 have hcd:(mkU p).code.getD k []=thI (p.ths.getD k td0).body (p.ths.getD k td0).regs (lcN p):=by
  rw[mkU,if_pos h0,z'f,z'K,v'M hlt (d:=td0)];rfl
 have hcl:(mkU p).code.length=p.ths.length:=by rw[mkU,if_pos h0,z'i]
 have e3:decide ((p.locs.length:Int)<(p.locs.length:Nat))=false:=decide_eq_false (by omega)
 refine VC.weak (Weak.fzs (t:=10) (e:=9) (g:=g) (rows:=v'f (lcN p)) (X:=[(b6,.cells 32 4 (unC (mkU p)))]) (y't _) (by rw[x'h,Za1];rfl) (w'S (f:=fun s=>[sD s]) (fun _=>rfl) _)) ?_
 repeat' first|refine dr (id:=15) T 19 (by kernel_rfl) ?_|(first|apply VCg.step T rfl rfl|apply exF);focus((try simp (disch:=omega) only[go_sem,Nat.reduceBEq,w'V,tdR,v'0,pgC,z'b,hcd,hcl]);(first|exact rfl|refine⟨?_,rfl⟩;try omega|refine Op1.callp rfl rfl (c3) rfl ?_;exact⟨rfl,rfl⟩))|refine mq2 (mqt4 @x'B @pgC.eq_1 @w64 @e3) c4 ?_|fail
 refine⟨⟨k+1,hlt⟩,z'O rfl ?_,by dsimp only;omega⟩
 simp[sub,upd,pgC]
theorem Zro (p:Pg):Pure Tryz.prog 4 [.agg (pgC p)] (bD true):=by
 have ck:=Zhm
 have cl:=Zhr p
 refine Fun.of T [.tmp 2] Tryz.func4 rfl Tryz.ntmps4 Tryz.results4 rfl (by kernel_rfl) ?_
 cases hL:pgL p with
 |false=>
  rw[hL]at cl
  repeat' first|refine vb (t:=26) rfl rfl rfl rfl ?_|refine mq2 @pgC.eq_1 (mqt2 cl ck) ?_|exact z'r T (z'a _) ⟨rfl,rfl⟩|fail
 |true=>
 rw[hL]at cl
 have hO:=Zop hL
 have hl2:=hO.ths
 have m1:=ZeC p hO
 by_cases h0:(y'3 p).1=0
 case neg=>
  have f0:((y'3 p).1 != 0)=true:=bne_iff_ne.2 h0
  rw[show mkU p=⟨0,[],[],[]⟩ by rw[mkU,if_neg h0]]at m1
  have l1:((Zaj []).length:Int)=0:=rfl
  repeat' first|refine vb (t:=26) rfl rfl rfl rfl ?_|refine mq2 (mqt3 @pgC.eq_1 @f0 @l1) (mqt3 cl m1 ck) ?_|refine mqn fun bq hbq=>?_|exact z'r T (z'a _) ⟨rfl,rfl⟩|fail
 have f0:((y'3 p).1 != 0)=false:=bne_eq_false_iff_eq.2 h0
 have c5:=ZiQ (mkU p) (Zod p hO)
 rw[ZpO h0]at c5
 have hmd:(mkU p).md=p.md:=by rw[mkU,if_pos h0]
 have hcl:(mkU p).code.length=p.ths.length:=by rw[mkU,if_pos h0,z'i]
 have b1:((p.ths.length:Int) != (p.ths.length:Nat))=false:=by simp
 repeat' first|refine vb (t:=26) rfl rfl rfl rfl ?_|refine mq2 (mqt6 @pgC.eq_1 @f0 @w'r @y'X @hcl @b1) (mqt2 cl m1) ?_|refine mqn fun bq hbq=>?_|fail
 obtain⟨b3,rfl⟩: ∃b3,b3=bq:=⟨_,rfl⟩
 refine VC.loop {k:Nat//k≤p.ths.length} (fun x=>⟨z'0 [(1,.pt (pgC p)),(3,ptB b3),(6,iD (x.1:Nat))],[(b3,.cells 32 4 (unC (mkU p)))]⟩) (fun x=>p.ths.length-x.1) ⟨0,z'm _⟩ ?_ ?_
 ·refine z'O rfl ?_
  simp[sub,upd,pgC]
 rintro⟨k,hk⟩
 dsimp only at hk⊢
 rcases z'g k p.ths.length with hlt|hge
 case inr=>
  have e1:decide ((k:Int)<(p.ths.length:Nat))=false:=decide_eq_false (by omega)
  have b2:((mkU p).md == p.md)=true:=by rw[hmd];exact beq_self_eq_true _
  repeat' first|refine mq2 (mqt4 @pgC.eq_1 @y'X @e1 @b2) (mqt2 c5 ck) ?_|exact z'r T (z'a _) ⟨rfl,rfl⟩|fail
 have e1:decide ((k:Int)<(p.ths.length:Nat))=true:=decide_eq_true (by omega)
 have hm:=z'8 (d:=td0) hlt
 have hB:=Zbm (ZbW h0) hm
 have hsz:=Znf hB (p.ths.getD k td0).regs (lcN p)
 have hsz':=ZkY hB (p.ths.getD k td0).regs (lcN p)
 have hbl:=(Zbq hB).1
 have hcd:(mkU p).code.getD k []=thI (p.ths.getD k td0).body (p.ths.getD k td0).regs (lcN p):=by
  rw[mkU,if_pos h0,z'f,z'K,v'M hlt (d:=td0)];rfl
 have hx:(p.ths.getD k td0).body.length=0→(thI (p.ths.getD k td0).body (p.ths.getD k td0).regs (lcN p)).length=1:=fun h=>by
  rw[hsz',h,x'L (z'c 0)]
 clear hsz'
 generalize thI (p.ths.getD k td0).body (p.ths.getD k td0).regs (lcN p)=row at*
 generalize hgt:p.ths.getD k td0=t at*
 have hw1:IntKind.i64.wrap (2*(t.body.length:Int))=2*(t.body.length:Int):=w64 (by omega)
 have hw2:IntKind.i64.wrap (2*(t.body.length:Int)+1)=2*(t.body.length:Int)+1:=w64 (by omega)
 have hw3:IntKind.i64.wrap ((k:Int)+1)=(k:Int)+1:=w64 (by omega)
 have e4:decide ((row.length:Int)>2*(t.body.length:Int)+1)=false:=decide_eq_false (by omega)
 have fin: ∀(E:Nat→D),Vc.sub E [(1,.pt (pgC p)),(3,ptB b3),(6,iD (k+1:Nat))]→ ∃k':{k:Nat//k≤p.ths.length},Weak ⟨E,[(b3,.cells 32 4 (unC (mkU p)))]⟩ ⟨z'0 [(1,.pt (pgC p)),(3,ptB b3),(6,iD (k'.1:Nat))],[(b3,.cells 32 4 (unC (mkU p)))]⟩∧p.ths.length-k'.1<p.ths.length-k:=fun E h=>⟨⟨k+1,hlt⟩,z'O rfl h,by dsimp only;omega⟩
 by_cases hz:t.body.length=0
 ·have e5:((t.body.length:Int) == 0)=true:=by rw[hz];rfl
  have e6:((row.length:Int) != 1)=false:=by rw[hx hz];rfl
  repeat' first|refine dr (id:=11) T 29 (by kernel_rfl) ?_|(first|apply VCg.step T rfl rfl|apply exF);focus((try simp (disch:=omega) only[go_sem,Nat.reduceBEq,w'V,tdR,x'C,y'W,v'0,pgC,z'b,hcd,hcl,hgt,hw1,hw2,e4,e5]);(first|exact rfl|refine⟨?_,rfl⟩;try omega))|refine VCg.gstep T rfl rfl rfl rfl ?_;try simp only[GB]|refine mq1 (mqt10 @y'X @y'W @v'0 @pgC.eq_1 @z'b @e1 @hcd @hcl @hw3 @e6) ?_|refine .wk ?_ ?_;focus(try omega)|fail
  refine fin _ ?_
  simp[sub,upd,pgC]
 ·have e5:((t.body.length:Int) == 0)=false:=beq_eq_false_iff_ne.2 (by omega)
  repeat' first|refine dr (id:=11) T 29 (by kernel_rfl) ?_|(first|apply VCg.step T rfl rfl|apply exF);focus((try simp (disch:=omega) only[go_sem,Nat.reduceBEq,w'V,tdR,x'C,y'W,v'0,pgC,z'b,hcd,hcl,hgt,hw1,hw2,e4,e5]);(first|exact rfl|refine⟨?_,rfl⟩;try omega))|refine VCg.gstep T rfl rfl rfl rfl ?_;try simp only[GB]|refine mq1 (mqt4 @y'X @pgC.eq_1 @e1 @hw3) ?_|fail
  refine fin _ ?_
  simp[sub,upd,pgC]
end Go.Proofs.YthlkpnjjkgmlkaaGreat
