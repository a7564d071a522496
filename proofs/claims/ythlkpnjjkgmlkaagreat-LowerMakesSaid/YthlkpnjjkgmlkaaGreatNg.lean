/- Contracts: a statement is laid. No condition. -/
import Derived.Test.YthlkpnjjkgmlkaaGreatNf
namespace Go.Proofs.YthlkpnjjkgmlkaaGreat
set_option maxHeartbeats 16000000
set_option linter.unusedSimpArgs false
set_option linter.unusedVariables false
set_option linter.unusedSectionVars false
set_option maxRecDepth 20000
open Go Go.Proofs Go.Vc
attribute [local irreducible] x'r VCg VCw VCx
theorem Zmy {b:Nat} (cd:List Opc):FzL [] [ptB b,.agg (insR (brI cd 0))] [ptB b,.agg [iD 21,iD 0,iD 0,y'0 cd,.gs none 0,bD false,iD 0]]:=
 y'f (Fz.refl _ _) (y'f ⟨_,rfl,y'f (Fz.refl _ _) (y'f (Fz.refl _ _) (y'f (Fz.refl _ _) (y'f (Fz.refl _ _) (y'f x'I (FzL.refl _ _)))))⟩ Zak)
theorem ResLv.val {bk:List Nat} {u v:Option Lw} (h:ResLv bk u v):lvD v=lvD u:=by
 cases u with
 |none=>cases v with
  |none=>rfl
  |some v=>exact h.elim
 |some u=>cases v with
  |none=>exact h.elim
  |some v=>obtain⟨h1,h2,_⟩:=h;simp only[lvD,h1,h2]
abbrev w'b (y:Yl) (a h:Nat):List Ins:=rw1 (rwA y.l y.regs y.locs) y.l y.regs y.locs a h 0
abbrev Zff (y:Yl) (b0 a:Nat) (lv:Option Lw) (r:List Ins):D→Heap→Prop:=fun d H'=> ∃x:G×Option Lw,(gOk x.1 (r++w'b y a r.length).length∧ResLv (bk1 (bkA y.l) y.l a r.length) lv x.2)∧d=iD (eeS (y.l.getD a sm0) a:Nat)∧H'=yH b0 y x.1 (r++w'b y a r.length) (lvX b0 x.2 [])
section
variable (y : Yl) (hy : YOk y) (n : Nat) (hP : Zi4 y n) (b0 a : Nat) (lv : Option Lw) (g : G) (r : List Ins) (x : Sm) (hx : y.l.getD a sm0 = x) (ha : a < y.l.length) (hb : 0 ≤ x.body ∧ 0 ≤ x.els) (he : eeS x a ≤ y.l.length) (hn : eeS x a - (a + 1) ≤ n)
 (hw1:wh y.l (a+1) (mdS x a)=true) (hw2:wh y.l (mdS x a) (eeS x a)=true) (hg:gOk g r.length) (hr:r.length+szF y.l a (eeS x a)≤40000) (hv:LvB lv (szF y.l a (eeS x a))) (hB:lv=none→bk1 (bkA y.l) y.l a r.length=[])
include hy hx ha hb he hg hr hv in
theorem Zp1 (k1:x.kind=1):Fun Tryz.prog 112 [ptB b0,iD (a:Nat),lvD lv] (yH b0 y g r (lvX b0 lv [])) false (Zff y b0 a lv r):=by
 have hyl:=hy.len
 have e1:mdS x a=a+1+x.body.toNat:=rfl
 have e2:eeS x a=a+1+x.body.toNat+x.els.toNat:=rfl
 have hc1:(a:Int)+1=((a+1:Nat):Int):=by omega
 have hc2:((a+1:Nat):Int)+x.body=((mdS x a:Nat):Int):=by omega
 have hc3:((mdS x a:Nat):Int)+x.els=((eeS x a:Nat):Int):=by omega
 have t1:(x.kind == 1)=true:=by rw[k1];rfl
 have hI:w'b y a r.length=[]:=by rw[w'b,rw1,hx,if_pos k1]
 have hKb:bk1 (bkA y.l) y.l a r.length=[]:=by rw[bk1,hx,if_pos k1]
 refine Fun.of T [.tmp 6] Tryz.func112 rfl Tryz.ntmps112 Tryz.results112 rfl (by kernel_rfl) ?_
 repeat' first|refine mq1 (mqt9 @y'M @hx @smR.eq_1 @w64 @z'b @hc1 @hc2 @hc3 @t1) ?_|refine mqn fun bq hbq=>?_|refine .wk ?_ ?_;focus(try omega)|fail
 refine z'r T (z'I _ _) ⟨(g,lv),⟨by rw[hI,z'u];exact hg,by rw[hKb];exact ResLv.nil fun v h=>(hv v h).1⟩,?_,by rw[hI,z'u]⟩
 rw[hx];rfl
include hy hx ha hb he hg hr hv hB in
theorem Zoh (k13:x.kind=13) (hbz:x.body=0∧x.els=0):Fun Tryz.prog 112 [ptB b0,iD (a:Nat),lvD lv] (yH b0 y g r (lvX b0 lv [])) false (Zff y b0 a lv r):=by
 have hyl:=hy.len
 have e1:mdS x a=a+1+x.body.toNat:=rfl
 have e2:eeS x a=a+1+x.body.toNat+x.els.toNat:=rfl
 have hc1:(a:Int)+1=((a+1:Nat):Int):=by omega
 have hc2:((a+1:Nat):Int)+x.body=((mdS x a:Nat):Int):=by omega
 have hc3:((mdS x a:Nat):Int)+x.els=((eeS x a:Nat):Int):=by omega
 have t1:(x.kind == 1)=false:=by rw[k13];rfl
 have t2:(x.kind == 13)=true:=by rw[k13];rfl
 have hI:w'b y a r.length=[jp0]:=by rw[w'b,rw1,hx,if_neg (by omega),if_pos k13]
 have hKb:bk1 (bkA y.l) y.l a r.length=[r.length]:=by rw[bk1,hx,if_neg (by omega),if_pos k13]
 cases lv with
 |none=>have:=hB rfl;rw[hKb]at this;cases this
 |some v=>
 have hv1:=hv v rfl
 have hs1:szF y.l a (eeS x a)=1:=by
  rw[show eeS x a=a+1 by omega,x'5 (z'c a),x'L (z'c a),hx,sz1,if_neg (by omega),if_neg (by omega),if_neg (by omega)]
 refine Fun.of T [.tmp 6] Tryz.func112 rfl Tryz.ntmps112 Tryz.results112 rfl (by kernel_rfl) ?_
 repeat' first|refine vs T rfl fun K hK=>?_;(try simp (disch:=omega) only[go_sem,Nat.reduceBEq,Nat.reduceAdd,Nat.reduceLeDiff,y'M,hx,smR,w64,z'b,hc1,hc2,hc3,t1,t2]);(first|refine hK _ _ ?_;clear hK K|intro bq hbq;(try simp only[HB]at hbq);refine hK _ _ ?_;clear hK K|refine⟨?_,hK _ _ ?_⟩<;>clear hK K;focus(try omega)|skip)|refine st rfl ?_|refine sc rfl ?_|refine nl ?_
 refine Op1.callG (caps:= #[.pointer (some ⟨v.b8,0,none⟩),.pointer (some ⟨v.b4,0,none⟩)]) (Hp:=lwH b0 v (yH b0 y g r [])) (Hr:=[(bq,.cells 50 9 (smR x))]) rfl rfl rfl (ZpI b0 v y g r (by omega) (by omega)) (y'n fun a=>by simp only[smR,lvX,lwH,yH,y'y,y'F,y'c,y'i,y'k];omega) (fun d H' h=>?_)
 obtain⟨z,⟨hz1,hz2⟩,rfl,rfl⟩:=h
 refine hK _ _ ?_
 clear hK K
 refine vo ?_
 refine VCo.weak (Weak.perm (H':=yH b0 y z.1 (r++[jp0]) (lvX b0 (some ⟨v.b8,v.b4,z.2.2,v.hs++[(z.2.1,r.length)]⟩) [])++[(bq,.cells 50 9 (smR x))]) (y'n fun a=>by simp only[lvX,lwH,yH,y'y,y'F,y'c,y'i,y'k];omega)) ?_
 refine ov ?_
 repeat' first|refine mq0 ?_|fail
 refine z'r T (List.sublist_append_left _ _) ⟨(z.1,some ⟨v.b8,v.b4,z.2.2,v.hs++[(z.2.1,r.length)]⟩),⟨by rw[hI,z'e];exact hz1,?_⟩,?_,by rw[hI]⟩
 ·rw[hKb]
  exact⟨rfl,rfl,by dsimp only;rw[z'e];exact hz2,[z.2.1],rfl,rfl⟩
 ·rw[hx];rfl
include hy hx ha hb he hg hr hv hB hP hn hw1 hw2 in
theorem Zoi (k1:x.kind≠1) (k13:x.kind≠13) (k10:x.kind≠10) (k11:x.kind≠11) (k12:x.kind≠12):Fun Tryz.prog 112 [ptB b0,iD (a:Nat),lvD lv] (yH b0 y g r (lvX b0 lv [])) false (Zff y b0 a lv r):=by
 have hyl:=hy.len
 have e1:mdS x a=a+1+x.body.toNat:=rfl
 have e2:eeS x a=a+1+x.body.toNat+x.els.toNat:=rfl
 have hc1:(a:Int)+1=((a+1:Nat):Int):=by omega
 have hc2:((a+1:Nat):Int)+x.body=((mdS x a:Nat):Int):=by omega
 have hc3:((mdS x a:Nat):Int)+x.els=((eeS x a:Nat):Int):=by omega
 have t1:(x.kind == 1)=false:=beq_eq_false_iff_ne.2 k1
 have t2:(x.kind == 13)=false:=beq_eq_false_iff_ne.2 k13
 have t3:(x.kind == 10)=false:=beq_eq_false_iff_ne.2 k10
 have t4:(x.kind == 11)=false:=beq_eq_false_iff_ne.2 k11
 have t5:(x.kind == 12)=false:=beq_eq_false_iff_ne.2 k12
 have hI:w'b y a r.length=[w'1 y.regs y.locs x]:=by rw[w'b,rw1,hx,if_neg k1,if_neg k13,if_neg k10,if_neg k11,if_neg k12]
 have hKb:bk1 (bkA y.l) y.l a r.length=[]:=by rw[bk1,hx,if_neg k1,if_neg k13,if_neg k10]
 have hO:=hy.okS.2 x (hx▸z'8 ha)
 refine Fun.of T [.tmp 6] Tryz.func112 rfl Tryz.ntmps112 Tryz.results112 rfl (by kernel_rfl) ?_
 repeat' first|refine vs T rfl fun K hK=>?_;(try simp (disch:=omega) only[go_sem,Nat.reduceBEq,Nat.reduceAdd,Nat.reduceLeDiff,y'M,hx,smR,w64,z'b,hc1,hc2,hc3,t1,t2,t3,t4,t5]);(first|refine hK _ _ ?_;clear hK K|intro bq hbq;(try simp only[HB]at hbq);refine hK _ _ ?_;clear hK K|refine⟨?_,hK _ _ ?_⟩<;>clear hK K;focus(try omega)|skip)|refine st rfl ?_|refine sc rfl ?_|refine nl ?_
 refine Op1.cally (Hp:=yH b0 y g r []) (Hr:=(bq,.cells 50 9 (smR x))::lvX b0 lv []) rfl rfl (ZoU b0 y hy.code hy.regs hy.locs g r (by omega) x hO) rfl (y'n fun a=>by simp only[smR,hoH,lvX,lwH,yH,y'y,y'F,y'c,y'i,y'k];omega) (fun g1 hg1=>?_)
 refine hK _ _ ?_
 clear hK K
 refine vo ?_
 refine VCo.weak (Weak.perm (H':=yH b0 y g1 (r++[w'1 y.regs y.locs x]) (lvX b0 lv [])++[(bq,.cells 50 9 (smR x))]) (y'n fun a=>by simp only[smR,hoH,lvX,lwH,yH,y'y,y'F,y'c,y'i,y'k];omega)) ?_
 refine ov ?_
 repeat' first|refine mq0 ?_|fail
 refine z'r T (List.sublist_append_left _ _) ⟨(g1,lv),⟨by rw[hI,z'e];exact hg1,by rw[hKb];exact ResLv.nil fun v h=>(hv v h).1⟩,?_,by rw[hI]⟩
 rw[hx];rfl
include hy hx ha hb he hg hr hv hB hP hn hw1 hw2 in
theorem Zp0 (k12:x.kind=12) (hz:x.els=0):Fun Tryz.prog 112 [ptB b0,iD (a:Nat),lvD lv] (yH b0 y g r (lvX b0 lv [])) false (Zff y b0 a lv r):=by
 have hyl:=hy.len
 have e1:mdS x a=a+1+x.body.toNat:=rfl
 have e2:eeS x a=a+1+x.body.toNat+x.els.toNat:=rfl
 have hc1:(a:Int)+1=((a+1:Nat):Int):=by omega
 have hc2:((a+1:Nat):Int)+x.body=((mdS x a:Nat):Int):=by omega
 have hc3:((mdS x a:Nat):Int)+x.els=((eeS x a:Nat):Int):=by omega
 have t1:(x.kind == 1)=false:=by rw[k12];rfl
 have t2:(x.kind == 13)=false:=by rw[k12];rfl
 have t3:(x.kind == 10)=false:=by rw[k12];rfl
 have t4:(x.kind == 11)=false:=by rw[k12];rfl
 have t5:(x.kind == 12)=true:=by rw[k12];rfl
 have hI:w'b y a r.length=rwA y.l y.regs y.locs (a+1) (mdS x a) r.length ((r.length+1+szF y.l (a+1) (mdS x a):Nat):Int)++[jpI (r.length:Nat)]:=by
  rw[w'b,rw1,hx,if_neg (by omega),if_neg (by omega),if_neg (by omega),if_neg (by omega),if_pos k12]
 have hKb:bk1 (bkA y.l) y.l a r.length=[]:=by rw[bk1,hx,if_neg (by omega),if_neg (by omega),if_neg (by omega)]
 have hs:szF y.l a (eeS x a)=1+szF y.l (a+1) (mdS x a):=by
  rw[x'v (m:=a+1) (by omega) (by omega),x'5 (z'c a),x'L (z'c a),hx,sz1,if_neg (by omega),if_neg (by omega),if_neg (by omega),show eeS x a=mdS x a by omega]
 have hol:(r++w'b y a r.length).length=r.length+1+szF y.l (a+1) (mdS x a):=by
  rw[hI,z'e,z'e,x'q y.l y.regs y.locs hy.noB _ _ _ _ _ (z'c _) (by omega) hw1]
  simp;omega
 have c1:=Zk4 b0 y g r
 refine Fun.of T [.tmp 6] Tryz.func112 rfl Tryz.ntmps112 Tryz.results112 rfl (by kernel_rfl) ?_
 repeat' first|refine vs T rfl fun K hK=>?_;(try simp (disch:=omega) only[go_sem,Nat.reduceBEq,Nat.reduceAdd,Nat.reduceLeDiff,y'M,hx,smR,w64,z'b,hc1,hc2,hc3,t1,t2,t3,t4,t5]);(first|refine hK _ _ ?_;clear hK K|intro bq hbq;(try simp only[HB]at hbq);refine hK _ _ ?_;clear hK K|refine⟨?_,hK _ _ ?_⟩<;>clear hK K;focus(try omega)|skip)|refine st rfl ?_|refine sc rfl ?_|refine nl ?_
 refine Op1.callG (caps:= #[]) (Hp:=yH b0 y g r []) (Hr:=(bq,.cells 50 9 (smR x))::lvX b0 lv []) rfl rfl rfl c1 (y'n fun a=>by simp only[smR,hoH,lvX,lwH,yH,y'y,y'F,y'c,y'i,y'k];omega) (fun d H' h=>?_)
 obtain⟨rfl,rfl⟩:=h
 refine hK _ _ ?_
 clear hK K
 repeat' first|refine vs T rfl fun K hK=>?_;(try simp (disch:=omega) only[go_sem])|fail
 refine Op1.cally (Hp:=yH b0 y g r []) (Hr:=(bq,.cells 50 9 (smR x))::lvX b0 lv []) rfl rfl (Zk5 y hy n hP b0 (a+1) (mdS x a) (r.length:Nat) g r (by omega) (by omega) hw1 hg (by omega)) rfl (y't _) (fun g1 hg1=>?_)
 refine hK _ _ ?_
 clear hK K
 rw[show r.length+szF y.l (a+1) (mdS x a)+1=r.length+1+szF y.l (a+1) (mdS x a) by omega, ←hI]at*
 refine vo ?_
 refine VCo.weak (Weak.perm (H':=yH b0 y g1 (r++w'b y a r.length) (lvX b0 lv [])++[(bq,.cells 50 9 (smR x))]) (y'n fun a=>by simp only[smR,hoH,lvX,lwH,yH,y'y,y'F,y'c,y'i,y'k];omega)) ?_
 refine ov ?_
 repeat' first|refine mq0 ?_|fail
 refine z'r T (List.sublist_append_left _ _) ⟨(g1,lv),⟨?_,by rw[hKb];exact ResLv.nil fun v h=>(hv v h).1⟩,?_,rfl⟩
 ·rw[hol];exact hg1
 ·rw[hx];rfl
include hy hx ha hb he hg hr hv hB hP hn hw1 hw2 in
theorem Zok (k11:x.kind=11) (hz:x.els=0):Fun Tryz.prog 112 [ptB b0,iD (a:Nat),lvD lv] (yH b0 y g r (lvX b0 lv [])) false (Zff y b0 a lv r):=by
 have hyl:=hy.len
 have e1:mdS x a=a+1+x.body.toNat:=rfl
 have e2:eeS x a=a+1+x.body.toNat+x.els.toNat:=rfl
 have hc1:(a:Int)+1=((a+1:Nat):Int):=by omega
 have hc2:((a+1:Nat):Int)+x.body=((mdS x a:Nat):Int):=by omega
 have hc3:((mdS x a:Nat):Int)+x.els=((eeS x a:Nat):Int):=by omega
 have t1:(x.kind == 1)=false:=by rw[k11];rfl
 have t2:(x.kind == 13)=false:=by rw[k11];rfl
 have t3:(x.kind == 10)=false:=by rw[k11];rfl
 have t4:(x.kind == 11)=true:=by rw[k11];rfl
 have hO:=hy.okS.2 x (hx▸z'8 ha)
 generalize hcd:cdT x.e y.regs=cd
 have hI:w'b y a r.length=brI cd ((r.length+2+szF y.l (a+1) (mdS x a):Nat):Int)::(rwA y.l y.regs y.locs (a+1) (mdS x a) (r.length+1) ((r.length+2+szF y.l (a+1) (mdS x a):Nat):Int)++[jpI (r.length:Nat)]):=by
  rw[w'b,rw1,hx,if_neg (by omega),if_neg (by omega),if_neg (by omega),if_pos k11,hcd]
 have hKb:bk1 (bkA y.l) y.l a r.length=[]:=by rw[bk1,hx,if_neg (by omega),if_neg (by omega),if_neg (by omega)]
 have hs:szF y.l a (eeS x a)=2+szF y.l (a+1) (mdS x a):=by
  rw[x'v (m:=a+1) (by omega) (by omega),x'5 (z'c a),x'L (z'c a),hx,sz1,if_neg (by omega),if_neg (by omega),if_pos k11,show eeS x a=mdS x a by omega]
 have hol:(r++w'b y a r.length).length=r.length+2+szF y.l (a+1) (mdS x a):=by
  rw[hI,z'e,z'q,z'e,x'q y.l y.regs y.locs hy.noB _ _ _ _ _ (z'c _) (by omega) hw1]
  simp;omega
 have c1:=Zk4 b0 y g r
 have c2:=ZcZ b0 y hy.code g r x.e hO.1
 rw[hcd]at c2
 refine Fun.of T [.tmp 6] Tryz.func112 rfl Tryz.ntmps112 Tryz.results112 rfl (by kernel_rfl) ?_
 repeat' first|refine vs T rfl fun K hK=>?_;(try simp (disch:=omega) only[go_sem,Nat.reduceBEq,Nat.reduceAdd,Nat.reduceLeDiff,y'M,hx,smR,w64,z'b,hc1,hc2,hc3,t1,t2,t3,t4]);(first|refine hK _ _ ?_;clear hK K|intro bq hbq;(try simp only[HB]at hbq);refine hK _ _ ?_;clear hK K|refine⟨?_,hK _ _ ?_⟩<;>clear hK K;focus(try omega)|skip)|refine st rfl ?_|refine sc rfl ?_|refine nl ?_
 refine Op1.callG (caps:= #[]) (Hp:=yH b0 y g r []) (Hr:=(bq,.cells 50 9 (smR x))::lvX b0 lv []) rfl rfl rfl c1 (y'n fun a=>by simp only[smR,hoH,lvX,lwH,yH,y'y,y'F,y'c,y'i,y'k];omega) (fun d H' h=>?_)
 obtain⟨rfl,rfl⟩:=h
 refine hK _ _ ?_
 clear hK K
 refine vo ?_
 refine VCo.weak (Weak.perm (H':=(bq,.cells 50 9 (smR x))::yH b0 y g r (lvX b0 lv [])) (y'n fun a=>by simp only[smR,hoH,lvX,lwH,yH,y'y,y'F,y'c,y'i,y'k];omega)) ?_
 refine ov ?_
 repeat' first|refine vs T rfl fun K hK=>?_;(try simp (disch:=omega) only[go_sem,Nat.reduceBEq,smR]);(first|refine hK _ _ ?_;clear hK K|skip)|refine st rfl ?_|refine nl ?_
 refine Op1.callG (caps:= #[]) (Hp:=yH b0 y g r []) (Hr:=(bq,.cells 50 9 (smR x))::lvX b0 lv []) rfl rfl rfl c2 (y'n fun a=>by simp only[smR,hoH,lvX,lwH,yH,y'y,y'F,y'c,y'i,y'k];omega) (fun d H' h=>?_)
 obtain⟨rfl,rfl⟩:=h
 refine hK _ _ ?_
 clear hK K
 repeat' first|refine vs T rfl fun K hK=>?_;(try simp (disch:=omega) only[go_sem,Nat.reduceBEq,Nat.reduceAdd]);(first|refine hK _ _ ?_;clear hK K|skip)|fail
 refine Op1.cally (Hp:=yH b0 y g r []) (Hr:=(bq,.cells 50 9 (smR x))::lvX b0 lv []) rfl rfl (Fun.argsH (ZdN b0 y g r (brI cd 0) (by omega)) (Zmy cd)) rfl (y't _) (fun z hz1=>?_)
 obtain⟨g1,z⟩:=z
 dsimp only at hz1⊢
 refine hK _ _ ?_
 clear hK K
 refine vo ?_
 refine VCo.weak (Weak.perm (H':=(bq,.cells 50 9 (smR x))::yH b0 y g1 (r++[brI cd 0]) (hoH b0 z r.length (lvX b0 lv []))) (y'n fun a=>by simp only[smR,hoH,lvX,lwH,yH,y'y,y'F,y'c,y'i,y'k];omega)) ?_
 refine ov ?_
 have hr1:(r++[brI cd 0]).length=r.length+1:=z'e
 repeat' first|refine vs T rfl fun K hK=>?_;(try simp (disch:=omega) only[go_sem,Nat.reduceBEq,w64,hc1]);(first|refine hK _ _ ?_;clear hK K|skip)|refine st rfl ?_|refine nl ?_
 refine Op1.cally (Hp:=yH b0 y g1 (r++[brI cd 0]) []) (Hr:=(bq,.cells 50 9 (smR x))::hoH b0 z r.length (lvX b0 lv [])) rfl rfl (Zk5 y hy n hP b0 (a+1) (mdS x a) (r.length:Nat) g1 (r++[brI cd 0]) (by omega) (by omega) hw1 (by rw[hr1];exact hz1) (by omega)) rfl (y'n fun a=>by simp only[smR,hoH,lvX,lwH,yH,y'y,y'F,y'c,y'i,y'k];omega) (fun g2 hg2=>?_)
 rw[hr1]at*
 rw[show r.length+1+szF y.l (a+1) (mdS x a)+1=r.length+2+szF y.l (a+1) (mdS x a) by omega]at*
 generalize hR:rwA y.l y.regs y.locs (a+1) (mdS x a) (r.length+1) ((r.length+2+szF y.l (a+1) (mdS x a):Nat):Int)++[jpI (r.length:Nat)]=R at*
 have hr2:(r++[brI cd 0]++R).length=r.length+2+szF y.l (a+1) (mdS x a):=by
  rw[←hol,hI];simp
 refine hK _ _ ?_
 clear hK K
 refine vo ?_
 refine VCo.weak (Weak.perm (H':=(bq,.cells 50 9 (smR x))::hoH b0 z r.length (yH b0 y g2 (r++[brI cd 0]++R) (lvX b0 lv []))) (y'n fun a=>by simp only[smR,hoH,lvX,lwH,yH,y'y,y'F,y'c,y'i,y'k];omega)) ?_
 refine ov ?_
 repeat' first|refine vs T rfl fun K hK=>?_;(try simp (disch:=omega) only[go_sem,Nat.reduceBEq]);(first|refine hK _ _ ?_;clear hK K|skip)|refine st rfl ?_|refine nl ?_
 refine Op1.callG (caps:= #[.pointer (some ⟨z.1,0,none⟩),.pointer (some ⟨z.2,0,none⟩)]) (Hp:=hoH b0 z r.length (yH b0 y g2 (r++[brI cd 0]++R) [])) (Hr:=(bq,.cells 50 9 (smR x))::lvX b0 lv []) rfl rfl rfl (ZcF b0 y g2 _ z r.length (by rw[hr2];exact hg2) (by omega) (by omega)) (y'n fun a=>by simp only[smR,hoH,lvX,lwH,yH,y'y,y'F,y'c,y'i,y'k];omega) (fun d H' h=>?_)
 obtain⟨rfl,rfl⟩:=h
 have hfin:Zay (r++[brI cd 0]++R) r.length ((r++[brI cd 0]++R).length:Nat)=r++w'b y a r.length:=by
  rw[hr2,hI,z'M]
  exact Zcb r (brI cd 0) R _
 rw[hfin]
 refine hK _ _ ?_
 clear hK K
 refine vo ?_
 refine VCo.weak (Weak.perm (H':=yH b0 y g2 (r++w'b y a r.length) (lvX b0 lv [])++[(bq,.cells 50 9 (smR x))]) (y'n fun a=>by simp only[smR,hoH,lvX,lwH,yH,y'y,y'F,y'c,y'i,y'k];omega)) ?_
 refine ov ?_
 repeat' first|refine mq0 ?_|fail
 refine z'r T (List.sublist_append_left _ _) ⟨(g2,lv),⟨by rw[hol];exact hg2,by rw[hKb];exact ResLv.nil fun v h=>(hv v h).1⟩,?_,rfl⟩
 rw[hx];rfl
include hy hx ha hb he hg hr hv hB hP hn hw1 hw2 in
theorem ZsP (k10:x.kind=10) (hz:x.els=0):Fun Tryz.prog 112 [ptB b0,iD (a:Nat),lvD lv] (yH b0 y g r (lvX b0 lv [])) false (Zff y b0 a lv r):=by
 have hyl:=hy.len
 have e1:mdS x a=a+1+x.body.toNat:=rfl
 have e2:eeS x a=a+1+x.body.toNat+x.els.toNat:=rfl
 have hc1:(a:Int)+1=((a+1:Nat):Int):=by omega
 have hc2:((a+1:Nat):Int)+x.body=((mdS x a:Nat):Int):=by omega
 have hc3:((mdS x a:Nat):Int)+x.els=((eeS x a:Nat):Int):=by omega
 have t1:(x.kind == 1)=false:=by rw[k10];rfl
 have t2:(x.kind == 13)=false:=by rw[k10];rfl
 have t3:(x.kind == 10)=true:=by rw[k10];rfl
 have tz:(x.els == 0)=true:=by rw[hz];rfl
 have hO:=hy.okS.2 x (hx▸z'8 ha)
 generalize hcd:cdT x.e y.regs=cd
 have hI:w'b y a r.length=brI cd ((r.length+1+szF y.l (a+1) (mdS x a):Nat):Int)::rwA y.l y.regs y.locs (a+1) (mdS x a) (r.length+1) 0:=by
  rw[w'b,rw1,hx,if_neg (by omega),if_neg (by omega),if_pos k10,if_pos hz,hcd]
 have hKb:bk1 (bkA y.l) y.l a r.length=bkA y.l (a+1) (mdS x a) (r.length+1):=by rw[bk1,hx,if_neg (by omega),if_neg (by omega),if_pos k10,if_pos hz]
 have hs:szF y.l a (eeS x a)=1+szF y.l (a+1) (mdS x a):=by
  rw[x'v (m:=a+1) (by omega) (by omega),x'5 (z'c a),x'L (z'c a),hx,sz1,if_neg (by omega),if_pos k10,if_neg (by omega),show eeS x a=mdS x a by omega]
 have hl1:=x'q y.l y.regs y.locs hy.noB _ (a+1) (mdS x a) (r.length+1) 0 (z'c _) (by omega) hw1
 have hb1:=ZaP y.l _ (a+1) (mdS x a) (z'c _) hw1 (r.length+1)
 have c2:=ZcZ b0 y hy.code g r x.e hO.1
 rw[hcd]at c2
 refine Fun.of T [.tmp 6] Tryz.func112 rfl Tryz.ntmps112 Tryz.results112 rfl (by kernel_rfl) ?_
 repeat' first|refine vs T rfl fun K hK=>?_;(try simp (disch:=omega) only[go_sem,Nat.reduceBEq,Nat.reduceAdd,Nat.reduceLeDiff,y'M,hx,smR,w64,z'b,hc1,hc2,hc3,t1,t2,t3]);(first|refine hK _ _ ?_;clear hK K|intro bq hbq;(try simp only[HB]at hbq);refine hK _ _ ?_;clear hK K|refine⟨?_,hK _ _ ?_⟩<;>clear hK K;focus(try omega)|skip)|refine st rfl ?_|refine sc rfl ?_|refine nl ?_
 refine Op1.callG (caps:= #[]) (Hp:=yH b0 y g r []) (Hr:=(bq,.cells 50 9 (smR x))::lvX b0 lv []) rfl rfl rfl c2 (y'n fun a=>by simp only[smR,hoH,lvX,lwH,yH,y'y,y'F,y'c,y'i,y'k];omega) (fun d H' h=>?_)
 obtain⟨rfl,rfl⟩:=h
 refine hK _ _ ?_
 clear hK K
 repeat' first|refine vs T rfl fun K hK=>?_;(try simp (disch:=omega) only[go_sem,Nat.reduceBEq,Nat.reduceAdd]);(first|refine hK _ _ ?_;clear hK K|skip)|fail
 refine Op1.cally (Hp:=yH b0 y g r []) (Hr:=(bq,.cells 50 9 (smR x))::lvX b0 lv []) rfl rfl (Fun.argsH (ZdN b0 y g r (brI cd 0) (by omega)) (Zmy cd)) rfl (y't _) (fun z hz1=>?_)
 obtain⟨g1,z⟩:=z
 dsimp only at hz1⊢
 refine hK _ _ ?_
 clear hK K
 refine vo ?_
 refine VCo.weak (Weak.perm (H':=(bq,.cells 50 9 (smR x))::yH b0 y g1 (r++[brI cd 0]) (hoH b0 z r.length (lvX b0 lv []))) (y'n fun a=>by simp only[smR,hoH,lvX,lwH,yH,y'y,y'F,y'c,y'i,y'k];omega)) ?_
 refine ov ?_
 repeat' first|refine vs T rfl fun K hK=>?_;(try simp (disch:=omega) only[go_sem,Nat.reduceBEq,w64,hc1]);(first|refine hK _ _ ?_;clear hK K|skip)|refine st rfl ?_|refine nl ?_
 have hr1:(r++[brI cd 0]).length=r.length+1:=z'e
 have hP1:=hP b0 (a+1) (mdS x a) lv g1 (r++[brI cd 0]) (by omega) (by omega) hw1 (by rw[hr1];exact hz1) (by omega) (fun v h=>⟨(hv v h).1,by have:=(hv v h).2;omega⟩) (fun h=>by have:=hB h;rw[hKb]at this;rw[hr1];exact this)
 rw[hr1]at hP1
 generalize hR:rwA y.l y.regs y.locs (a+1) (mdS x a) (r.length+1) 0=R at*
 generalize hBk:bkA y.l (a+1) (mdS x a) (r.length+1)=B1 at*
 refine Op1.cally (Hp:=yH b0 y g1 (r++[brI cd 0]) (lvX b0 lv [])) (Hr:=(bq,.cells 50 9 (smR x))::hoH b0 z r.length []) rfl rfl hP1 rfl (y'n fun a=>by simp only[smR,hoH,lvX,lwH,yH,y'y,y'F,y'c,y'i,y'k];omega) (fun x2 hx2=>?_)
 obtain⟨g2,lv2⟩:=x2
 obtain⟨hg2,hR2⟩:=hx2
 dsimp only at hg2 hR2⊢
 have hr2:(r++[brI cd 0]++R).length=r.length+1+szF y.l (a+1) (mdS x a):=by rw[z'e,hr1,hl1]
 refine hK _ _ ?_
 clear hK K
 refine vo ?_
 refine VCo.weak (Weak.perm (H':=(bq,.cells 50 9 (smR x))::hoH b0 z r.length (yH b0 y g2 (r++[brI cd 0]++R) (lvX b0 lv2 []))) (y'n fun a=>by simp only[smR,hoH,lvX,lwH,yH,y'y,y'F,y'c,y'i,y'k];omega)) ?_
 refine ov ?_
 repeat' first|refine vs T rfl fun K hK=>?_;(try simp (disch:=omega) only[go_sem,Nat.reduceBEq,tz,smR]);(first|refine hK _ _ ?_;clear hK K|skip)|refine st rfl ?_|refine sc rfl ?_|refine nl ?_
 refine Op1.callG (caps:= #[.pointer (some ⟨z.1,0,none⟩),.pointer (some ⟨z.2,0,none⟩)]) (Hp:=hoH b0 z r.length (yH b0 y g2 (r++[brI cd 0]++R) [])) (Hr:=(bq,.cells 50 9 (smR x))::lvX b0 lv2 []) rfl rfl rfl (ZcF b0 y g2 _ z r.length hg2 (by omega) (by omega)) (y'n fun a=>by simp only[smR,hoH,lvX,lwH,yH,y'y,y'F,y'c,y'i,y'k];omega) (fun d H' h=>?_)
 obtain⟨rfl,rfl⟩:=h
 have hfin:Zay (r++[brI cd 0]++R) r.length ((r++[brI cd 0]++R).length:Nat)=r++w'b y a r.length:=by
  rw[hr2,hI,z'M]
  exact Zcb r (brI cd 0) R _
 have hol:(r++w'b y a r.length).length=(r++[brI cd 0]++R).length:=by rw[←hfin,Zdn]
 rw[hfin]
 refine hK _ _ ?_
 clear hK K
 refine vo ?_
 refine VCo.weak (Weak.perm (H':=yH b0 y g2 (r++w'b y a r.length) (lvX b0 lv2 [])++[(bq,.cells 50 9 (smR x))]) (y'n fun a=>by simp only[smR,hoH,lvX,lwH,yH,y'y,y'F,y'c,y'i,y'k];omega)) ?_
 refine ov ?_
 repeat' first|refine mq0 ?_|fail
 refine z'r T (List.sublist_append_left _ _) ⟨(g2,lv2),⟨by rw[hol];exact hg2,by rw[hKb];exact hR2⟩,?_,rfl⟩
 rw[hx];rfl
include hy hx ha hb he hg hr hv hB hP hn hw1 hw2 in
theorem ZpZ (k10:x.kind=10) (hz:x.els≠0):Fun Tryz.prog 112 [ptB b0,iD (a:Nat),lvD lv] (yH b0 y g r (lvX b0 lv [])) false (Zff y b0 a lv r):=by
 have hyl:=hy.len
 have e1:mdS x a=a+1+x.body.toNat:=rfl
 have e2:eeS x a=a+1+x.body.toNat+x.els.toNat:=rfl
 have hc1:(a:Int)+1=((a+1:Nat):Int):=by omega
 have hc2:((a+1:Nat):Int)+x.body=((mdS x a:Nat):Int):=by omega
 have hc3:((mdS x a:Nat):Int)+x.els=((eeS x a:Nat):Int):=by omega
 have t1:(x.kind == 1)=false:=by rw[k10];rfl
 have t2:(x.kind == 13)=false:=by rw[k10];rfl
 have t3:(x.kind == 10)=true:=by rw[k10];rfl
 have tz:(x.els == 0)=false:=beq_eq_false_iff_ne.2 hz
 have hO:=hy.okS.2 x (hx▸z'8 ha)
 generalize hcd:cdT x.e y.regs=cd
 have hI:w'b y a r.length=brI cd ((r.length+2+szF y.l (a+1) (mdS x a):Nat):Int)::(rwA y.l y.regs y.locs (a+1) (mdS x a) (r.length+1) 0++(jpI ((r.length+2+szF y.l (a+1) (mdS x a)+szF y.l (mdS x a) (eeS x a):Nat):Int)::rwA y.l y.regs y.locs (mdS x a) (eeS x a) (r.length+2+szF y.l (a+1) (mdS x a)) 0)):=by
  rw[w'b,rw1,hx,if_neg (by omega),if_neg (by omega),if_pos k10,if_neg hz,hcd];rfl
 have hKb:bk1 (bkA y.l) y.l a r.length=bkA y.l (a+1) (mdS x a) (r.length+1)++bkA y.l (mdS x a) (eeS x a) (r.length+2+szF y.l (a+1) (mdS x a)):=by rw[bk1,hx,if_neg (by omega),if_neg (by omega),if_pos k10,if_neg hz]
 have hs:szF y.l a (eeS x a)=2+(szF y.l (a+1) (mdS x a)+szF y.l (mdS x a) (eeS x a)):=by
  rw[x'v (m:=a+1) (by omega) (by omega),x'5 (z'c a),x'L (z'c a),hx,sz1,if_neg (by omega),if_pos k10,if_pos (by omega),x'v (a:=a+1) (m:=mdS x a) (by omega) (by omega)]
 have hl1:=x'q y.l y.regs y.locs hy.noB _ (a+1) (mdS x a) (r.length+1) 0 (z'c _) (by omega) hw1
 have hb1:=ZaP y.l _ (a+1) (mdS x a) (z'c _) hw1 (r.length+1)
 have c2:=ZcZ b0 y hy.code g r x.e hO.1
 rw[hcd]at c2
 refine Fun.of T [.tmp 6] Tryz.func112 rfl Tryz.ntmps112 Tryz.results112 rfl (by kernel_rfl) ?_
 repeat' first|refine vs T rfl fun K hK=>?_;(try simp (disch:=omega) only[go_sem,Nat.reduceBEq,Nat.reduceAdd,Nat.reduceLeDiff,y'M,hx,smR,w64,z'b,hc1,hc2,hc3,t1,t2,t3]);(first|refine hK _ _ ?_;clear hK K|intro bq hbq;(try simp only[HB]at hbq);refine hK _ _ ?_;clear hK K|refine⟨?_,hK _ _ ?_⟩<;>clear hK K;focus(try omega)|skip)|refine st rfl ?_|refine sc rfl ?_|refine nl ?_
 refine Op1.callG (caps:= #[]) (Hp:=yH b0 y g r []) (Hr:=(bq,.cells 50 9 (smR x))::lvX b0 lv []) rfl rfl rfl c2 (y'n fun a=>by simp only[smR,hoH,lvX,lwH,yH,y'y,y'F,y'c,y'i,y'k];omega) (fun d H' h=>?_)
 obtain⟨rfl,rfl⟩:=h
 refine hK _ _ ?_
 clear hK K
 repeat' first|refine vs T rfl fun K hK=>?_;(try simp (disch:=omega) only[go_sem,Nat.reduceBEq,Nat.reduceAdd]);(first|refine hK _ _ ?_;clear hK K|skip)|fail
 refine Op1.cally (Hp:=yH b0 y g r []) (Hr:=(bq,.cells 50 9 (smR x))::lvX b0 lv []) rfl rfl (Fun.argsH (ZdN b0 y g r (brI cd 0) (by omega)) (Zmy cd)) rfl (y't _) (fun z hz1=>?_)
 obtain⟨g1,z⟩:=z
 dsimp only at hz1⊢
 refine hK _ _ ?_
 clear hK K
 refine vo ?_
 refine VCo.weak (Weak.perm (H':=(bq,.cells 50 9 (smR x))::yH b0 y g1 (r++[brI cd 0]) (hoH b0 z r.length (lvX b0 lv []))) (y'n fun a=>by simp only[smR,hoH,lvX,lwH,yH,y'y,y'F,y'c,y'i,y'k];omega)) ?_
 refine ov ?_
 repeat' first|refine vs T rfl fun K hK=>?_;(try simp (disch:=omega) only[go_sem,Nat.reduceBEq,w64,hc1]);(first|refine hK _ _ ?_;clear hK K|skip)|refine st rfl ?_|refine nl ?_
 have hr1:(r++[brI cd 0]).length=r.length+1:=z'e
 have hP1:=hP b0 (a+1) (mdS x a) lv g1 (r++[brI cd 0]) (by omega) (by omega) hw1 (by rw[hr1];exact hz1) (by omega) (fun v h=>⟨(hv v h).1,by have:=(hv v h).2;omega⟩) (fun h=>by have:=hB h;rw[hKb]at this;rw[hr1];exact(List.append_eq_nil_iff.1 this).1)
 rw[hr1]at hP1
 generalize hR:rwA y.l y.regs y.locs (a+1) (mdS x a) (r.length+1) 0=R at*
 generalize hBk:bkA y.l (a+1) (mdS x a) (r.length+1)=B1 at*
 refine Op1.cally (Hp:=yH b0 y g1 (r++[brI cd 0]) (lvX b0 lv [])) (Hr:=(bq,.cells 50 9 (smR x))::hoH b0 z r.length []) rfl rfl hP1 rfl (y'n fun a=>by simp only[smR,hoH,lvX,lwH,yH,y'y,y'F,y'c,y'i,y'k];omega) (fun x2 hx2=>?_)
 obtain⟨g2,lv2⟩:=x2
 obtain⟨hg2,hR2⟩:=hx2
 dsimp only at hg2 hR2⊢
 have hr2:(r++[brI cd 0]++R).length=r.length+1+szF y.l (a+1) (mdS x a):=by rw[z'e,hr1,hl1]
 have hl2:=x'q y.l y.regs y.locs hy.noB _ (mdS x a) (eeS x a) (r.length+2+szF y.l (a+1) (mdS x a)) 0 (z'c _) he hw2
 have hlv2:LvB lv2 (szF y.l (mdS x a) (eeS x a)):=by
  intro v hv2
  subst hv2
  cases lv with
  |none=>exact hR2.elim
  |some w=>
   obtain⟨_,_,h3,zs,h4,h5⟩:=hR2
   have:=(hv w rfl).2
   refine⟨h3,?_⟩
   rw[h5,z'e,List.length_zip,h4,Nat.min_self]
   omega
 refine hK _ _ ?_
 clear hK K
 refine vo ?_
 refine VCo.weak (Weak.perm (H':=(bq,.cells 50 9 (smR x))::yH b0 y g2 (r++[brI cd 0]++R) (hoH b0 z r.length (lvX b0 lv2 []))) (y'n fun a=>by simp only[smR,hoH,lvX,lwH,yH,y'y,y'F,y'c,y'i,y'k];omega)) ?_
 refine ov ?_
 repeat' first|refine vs T rfl fun K hK=>?_;(try simp (disch:=omega) only[go_sem,Nat.reduceBEq,Nat.reduceAdd,tz,smR]);(first|refine hK _ _ ?_;clear hK K|skip)|refine st rfl ?_|refine sc rfl ?_|refine nl ?_
 refine Op1.cally (Hp:=yH b0 y g2 (r++[brI cd 0]++R) []) (Hr:=(bq,.cells 50 9 (smR x))::hoH b0 z r.length (lvX b0 lv2 [])) rfl rfl (Fun.argsH (ZdN b0 y g2 (r++[brI cd 0]++R) jp0 (by omega)) ZqA) rfl (y'n fun a=>by simp only[smR,hoH,lvX,lwH,yH,y'y,y'F,y'c,y'i,y'k];omega) (fun z3 hz3=>?_)
 obtain⟨g3,z2⟩:=z3
 dsimp only at hz3⊢
 rw[hr2]at hz3⊢
 have hr3:(r++[brI cd 0]++R++[jp0]).length=r.length+2+szF y.l (a+1) (mdS x a):=by rw[z'e,hr2];show _+1=_;omega
 refine hK _ _ ?_
 clear hK K
 refine vo ?_
 refine VCo.weak (Weak.perm (H':=(bq,.cells 50 9 (smR x))::hoH b0 z r.length (yH b0 y g3 (r++[brI cd 0]++R++[jp0]) (hoH b0 z2 (r.length+1+szF y.l (a+1) (mdS x a)) (lvX b0 lv2 [])))) (y'n fun a=>by simp only[smR,hoH,lvX,lwH,yH,y'y,y'F,y'c,y'i,y'k];omega)) ?_
 refine ov ?_
 repeat' first|refine vs T rfl fun K hK=>?_;(try simp (disch:=omega) only[go_sem,Nat.reduceBEq]);(first|refine hK _ _ ?_;clear hK K|skip)|refine st rfl ?_|refine nl ?_
 refine Op1.callG (caps:= #[.pointer (some ⟨z.1,0,none⟩),.pointer (some ⟨z.2,0,none⟩)]) (Hp:=hoH b0 z r.length (yH b0 y g3 (r++[brI cd 0]++R++[jp0]) [])) (Hr:=(bq,.cells 50 9 (smR x))::hoH b0 z2 (r.length+1+szF y.l (a+1) (mdS x a)) (lvX b0 lv2 [])) rfl rfl rfl (ZcF b0 y g3 _ z r.length (by rw[hr3];rw[show r.length+2+szF y.l (a+1) (mdS x a)=r.length+1+szF y.l (a+1) (mdS x a)+1 by omega];exact hz3) (by omega) (by omega)) (y'n fun a=>by simp only[smR,hoH,lvX,lwH,yH,y'y,y'F,y'c,y'i,y'k];omega) (fun d H' h=>?_)
 obtain⟨rfl,rfl⟩:=h
 have hs3:Zay (r++[brI cd 0]++R++[jp0]) r.length ((r++[brI cd 0]++R++[jp0]).length:Nat)=r++(brI cd ((r.length+2+szF y.l (a+1) (mdS x a):Nat):Int)::(R++[jp0])):=by
  rw[hr3,z'M,z'M]
  exact Zcb r (brI cd 0) (R++[jp0]) _
 rw[hs3]
 generalize hT:brI cd ((r.length+2+szF y.l (a+1) (mdS x a):Nat):Int)=BR at*
 have hr4:(r++(BR::(R++[jp0]))).length=r.length+2+szF y.l (a+1) (mdS x a):=by
  simp only[z'e,z'q,z'V,hl1];omega
 refine hK _ _ ?_
 clear hK K
 refine vo ?_
 refine VCo.weak (Weak.perm (H':=(bq,.cells 50 9 (smR x))::yH b0 y g3 (r++(BR::(R++[jp0]))) (hoH b0 z2 (r.length+1+szF y.l (a+1) (mdS x a)) (lvX b0 lv2 []))) (y'n fun a=>by simp only[smR,hoH,lvX,lwH,yH,y'y,y'F,y'c,y'i,y'k];omega)) ?_
 refine ov ?_
 repeat' first|refine vs T rfl fun K hK=>?_;(try simp (disch:=omega) only[go_sem,Nat.reduceBEq]);(first|refine hK _ _ ?_;clear hK K|skip)|refine st rfl ?_|refine nl ?_
 have hP2:=hP b0 (mdS x a) (eeS x a) lv2 g3 (r++(BR::(R++[jp0]))) (by omega) he hw2 (by rw[hr4];rw[show r.length+2+szF y.l (a+1) (mdS x a)=r.length+1+szF y.l (a+1) (mdS x a)+1 by omega];exact hz3) (by omega) hlv2 (fun h=>by
  subst h
  cases lv with
  |some w=>exact hR2.elim
  |none=>have:=hB rfl;rw[hKb]at this;rw[hr4];exact(List.append_eq_nil_iff.1 this).2)
 rw[hr4,hR2.val]at hP2
 generalize hRe:rwA y.l y.regs y.locs (mdS x a) (eeS x a) (r.length+2+szF y.l (a+1) (mdS x a)) 0=R' at*
 generalize hBe:bkA y.l (mdS x a) (eeS x a) (r.length+2+szF y.l (a+1) (mdS x a))=B2 at*
 refine Op1.cally (Hp:=yH b0 y g3 (r++(BR::(R++[jp0]))) (lvX b0 lv2 [])) (Hr:=(bq,.cells 50 9 (smR x))::hoH b0 z2 (r.length+1+szF y.l (a+1) (mdS x a)) []) rfl rfl hP2 rfl (y'n fun a=>by simp only[smR,hoH,lvX,lwH,yH,y'y,y'F,y'c,y'i,y'k];omega) (fun x4 hx4=>?_)
 obtain⟨g4,lv4⟩:=x4
 obtain⟨hg4,hR4⟩:=hx4
 dsimp only at hg4 hR4⊢
 have hr5:(r++(BR::(R++[jp0]))++R').length=r.length+2+szF y.l (a+1) (mdS x a)+szF y.l (mdS x a) (eeS x a):=by rw[z'e,hr4,hl2]
 refine hK _ _ ?_
 clear hK K
 refine vo ?_
 refine VCo.weak (Weak.perm (H':=(bq,.cells 50 9 (smR x))::hoH b0 z2 (r.length+1+szF y.l (a+1) (mdS x a)) (yH b0 y g4 (r++(BR::(R++[jp0]))++R') (lvX b0 lv4 []))) (y'n fun a=>by simp only[smR,hoH,lvX,lwH,yH,y'y,y'F,y'c,y'i,y'k];omega)) ?_
 refine ov ?_
 repeat' first|refine vs T rfl fun K hK=>?_;(try simp (disch:=omega) only[go_sem,Nat.reduceBEq]);(first|refine hK _ _ ?_;clear hK K|skip)|refine st rfl ?_|refine nl ?_
 refine Op1.callG (caps:= #[.pointer (some ⟨z2.1,0,none⟩),.pointer (some ⟨z2.2,0,none⟩)]) (Hp:=hoH b0 z2 (r.length+1+szF y.l (a+1) (mdS x a)) (yH b0 y g4 (r++(BR::(R++[jp0]))++R') [])) (Hr:=(bq,.cells 50 9 (smR x))::lvX b0 lv4 []) rfl rfl rfl (ZcF b0 y g4 _ z2 _ hg4 (by omega) (by omega)) (y'n fun a=>by simp only[smR,hoH,lvX,lwH,yH,y'y,y'F,y'c,y'i,y'k];omega) (fun d H' h=>?_)
 obtain⟨rfl,rfl⟩:=h
 have hfin:Zay (r++(BR::(R++[jp0]))++R') (r.length+1+szF y.l (a+1) (mdS x a)) ((r++(BR::(R++[jp0]))++R').length:Nat)=r++w'b y a r.length:=by
  have hpl:(r++(BR::R)).length=r.length+1+szF y.l (a+1) (mdS x a):=by simp only[z'e,z'q,hl1];omega
  have h0:r++(BR::(R++[jp0]))++R'=(r++(BR::R))++jp0::R':=by simp
  rw[hr5,hI,h0, ←hpl,Zcb]
  simp[jpI]
 have hol:(r++w'b y a r.length).length=(r++(BR::(R++[jp0]))++R').length:=by rw[←hfin,Zdn]
 rw[hfin]
 refine hK _ _ ?_
 clear hK K
 refine vo ?_
 refine VCo.weak (Weak.perm (H':=yH b0 y g4 (r++w'b y a r.length) (lvX b0 lv4 [])++[(bq,.cells 50 9 (smR x))]) (y'n fun a=>by simp only[smR,hoH,lvX,lwH,yH,y'y,y'F,y'c,y'i,y'k];omega)) ?_
 refine ov ?_
 repeat' first|refine mq0 ?_|fail
 refine z'r T (List.sublist_append_left _ _) ⟨(g4,lv4),⟨by rw[hol];exact hg4,by rw[hKb];exact hR2.app hR4⟩,?_,rfl⟩
 rw[hx];rfl
end
end Go.Proofs.YthlkpnjjkgmlkaaGreat
