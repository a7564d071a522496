/- Contracts: a row of instructions that is laid: here, put, hole. No condition. -/
import Derived.Test.YthlkpnjjkgmlkaaGreatLc
import Derived.Test.YthlkpnjjkgmlkaaGreatDp
import Derived.Test.YthlkpnjjkgmlkaaGreatYd
namespace Go.Proofs.YthlkpnjjkgmlkaaGreat
set_option maxHeartbeats 16000000
set_option linter.unusedSimpArgs false
set_option linter.unusedVariables false
set_option maxRecDepth 20000
open Go Go.Proofs Go.Vc
attribute [local irreducible] x'r VCg VCw VCx
structure Yl where
 l:List Sm
 regs:List ByteArray
 locs:List ByteArray
abbrev yC (y:Yl) (g:G) (n:Nat):List D:=[x'E y.l,x't y.regs,x't y.locs,.gs g n]
abbrev yH (b:Nat) (y:Yl) (g:G) (r:List Ins) (X:Heap):Heap:=(b,.cells 112 4 (yC y g r.length))::shp g 104 7 (y'Y r).flatten X
theorem Zk4 (b:Nat) (y:Yl) (g:G) (r:List Ins):Fun Tryz.prog 173 [ptB b] (yH b y g r []) false (fun d H'=>d=iD (r.length:Nat)∧H'=yH b y g r []):=by
 refine Fun.of T [.tmp 2] Tryz.func173 rfl Tryz.ntmps173 Tryz.results173 rfl (by kernel_rfl) ?_
 repeat' first|refine mq0 ?_|fail
 exact z'r T (z'n _) ⟨rfl,rfl⟩
theorem ZlJ (l:List Ins):(y'Y l).flatten.length=l.length*7:=by
 induction l with
 |nil=>rfl
 |cons x l ih=>simp only[y'Y,z'p,y'o,z'e,z'q]at ih⊢;rw[ih];simp[insR];omega
theorem ZmS (l:List Ins) (x:Ins):(y'Y (l++[x])).flatten=(y'Y l).flatten++insR x:=by simp[y'Y]
theorem ZfY (b:Nat) (y:Yl) (g:G) (r:List Ins) (x:Ins) (hr:r.length≤100000):Fun Tryz.prog 63 [ptB b,.agg (insR x)] (yH b y g r []) false
  (fun d H'=> ∃g':G,gOk g' (r.length+1)∧d=iD (r.length:Nat)∧H'=yH b y g' (r++[x]) []):=by
 refine Fun.of T [.tmp 4] Tryz.func63 rfl Tryz.ntmps63 Tryz.results63 rfl (by kernel_rfl) ?_
 repeat' first|refine vb (t:=104) rfl rfl rfl rfl ?_|refine VC.drawS (id:=1) (by kernel_rfl) ?_|refine mq1 @insR.eq_1 ?_|fail
 refine VCd.take rfl rfl rfl rfl rfl rfl (by kernel_rfl) (by kernel_rfl) (fun c s' h=>by simp only[w'j]at h;unfold x'r at h;exact h) ?_
 repeat' first|refine VCd.group T (s:=1) 7 8 rfl rfl (by kernel_rfl) (by kernel_rfl) (by kernel_rfl) ?_;(try simp only[y'p,y'e,Nat.reduceSub])|refine gn ?_|apply VCg.step T rfl rfl;focus((try simp (disch:=omega) only[go_sem,Nat.reduceBEq,Nat.reduceAdd,Nat.reduceMul,Nat.reduceLeDiff]);(exact rfl))
 refine VCd.oneL T rfl (by kernel_rfl) (by kernel_rfl) rfl rfl fun K hK=>?_
 simp (disch:=omega) only[go_sem,Nat.reduceBEq,Nat.reduceAdd,Nat.reduceMul,Nat.reduceSub,Nat.reduceLeDiff,Int.reduceToNat]
 refine⟨_,_,_,_,(by repeat (first|exact Sp.here|exact Sp.nil|apply Sp.cons|apply Sp.over)),?_,(by first|exact⟨rfl,rfl⟩|exact⟨rfl,rfl,rfl⟩),?_,fun g' hg'=>hK _ _ ?_⟩<;>clear hK K
 ·exact ZlJ r
 ·omega
 repeat' first|refine VCd.tail (f:=8) (by kernel_rfl) ?_;(try simp only[y'p,y'e])|refine mq1 @w64 ?_|refine ov ?_|fail
 refine z'r T (z'n _) ⟨g',hg',congrArg iD (by omega),?_⟩
 simp only[yH,yC,ZmS,z'e,List.length_singleton,insR]
theorem ZrI {α:Type} (Y:List α) (a c:α):(Y++[a,c]).Perm (c::(Y++[a])):=by
 rw[show Y++[a,c]=(Y++[a])++[c] by simp]
 exact List.perm_append_singleton ..
abbrev clD (z:Nat×Nat):D:= .is (.func (.func 241) #[] #[.pointer (some ⟨z.1,0,none⟩),.pointer (some ⟨z.2,0,none⟩)])
abbrev hoH (b:Nat) (z:Nat×Nat) (k:Nat) (X:Heap):Heap:=(z.2,.cells 3 1 [iD (k:Nat)])::(z.1,.cells 110 1 [ptB b])::X
theorem ZdN (b:Nat) (y:Yl) (g:G) (r:List Ins) (x:Ins) (hr:r.length≤100000):Fun Tryz.prog 171 [ptB b,.agg (insR x)] (yH b y g r []) false
  (fun d H'=> ∃z:G×Nat×Nat,gOk z.1 (r.length+1)∧d=clD z.2∧H'=hoH b z.2 r.length (yH b y z.1 (r++[x]) [])):=by
 refine Fun.of T [.tmp 4] Tryz.func171 rfl Tryz.ntmps171 Tryz.results171 rfl (by kernel_rfl) ?_
 repeat' first|refine vs T rfl fun K hK=>?_;(try simp (disch:=omega) only[go_sem,Nat.reduceBEq,Nat.reduceAdd,Nat.reduceLeDiff,insR]);(first|refine hK _ _ ?_;clear hK K|intro bq hbq;(try simp only[HB]at hbq);refine hK _ _ ?_;clear hK K|skip)|refine st rfl ?_|refine nl ?_
 rename_i b2 hb2
 refine Op1.cally (Hp:=yH b y g r []) (Hr:=[_,_]) rfl rfl (ZfY b y g r x hr) rfl (List.perm_append_comm (l₁:=[_,_]) (l₂:=yH b y g r [])) (fun q hq=>?_)
 refine hK _ _ ?_
 clear hK K
 refine vo ?_
 refine VCo.weak (Weak.perm (H':=(b2,.cells 110 1 [ptB b])::(yH b y q (r++[x]) []++[(bq,.cells 104 7 (insR x))])) (ZrI _ _ _)) ?_
 refine ov ?_
 repeat' first|refine vs T rfl fun K hK=>?_;(try simp (disch:=omega) only[go_sem,Nat.reduceBEq,Nat.reduceLeDiff]);(first|refine hK _ _ ?_;clear hK K|intro bq hbq;(try simp only[HB]at hbq);refine hK _ _ ?_;clear hK K|skip)|refine st rfl ?_|refine nl ?_
 refine w'h (cs:=[.tmp 2,.tmp 5]) (us:=[.pointer (some ⟨b2,0,none⟩),.pointer (some ⟨bq,0,none⟩)]) rfl rfl ?_
 refine hK _ _ ?_
 clear hK K
 repeat' first|refine mq0 ?_|fail
 refine z'r T (H':=_) ?_ ⟨(q,b2,bq),hq,rfl,rfl⟩
 refine List.Sublist.cons_cons _ (List.Sublist.cons_cons _ (List.Sublist.cons_cons _ (List.sublist_append_left _ _)))
theorem ZpA (y:Yl) (r:List Ins):Pure Tryz.prog 173 [.pt [x'E y.l,x't y.regs,x't y.locs,.sl false 7 (y'Y r)]] (iD (r.length:Nat)):=by
 refine Fun.of T [.tmp 2] Tryz.func173 rfl Tryz.ntmps173 Tryz.results173 rfl (by kernel_rfl) ?_
 repeat' first|refine mq1 @y'W ?_|exact z'r T (z'a _) ⟨rfl,rfl⟩|fail
theorem ZtW (b:Nat) (y:Yl) (g:G) (r:List Ins) (hg:gOk g r.length) (H:Heap) (hm: ∀x,x∈yH b y g r []→x∈H):FzL H [.pt [x'E y.l,x't y.regs,x't y.locs,.sl false 7 (y'Y r)]] [ptB b]:=by
 refine y'f ?_ Zak
 refine .inr ⟨b,0,_,_,_,rfl,hm _ (z't ..),?_⟩
 rw[y'e]
 refine⟨_,_,rfl,Fz.refl _ _,_,_,rfl,Fz.refl _ _,_,_,rfl,Fz.refl _ _,_,_,rfl,?_,trivial⟩
 exact ZgP (y'W r).symm hg (fun b' cap hb=>hm _ (z'o _ (by rw[hb];exact ZaH))) (FzR.refl _ _ fun x hx=>by obtain⟨i,_,rfl⟩:=z'w.1 hx;rfl)
def Zay (r:List Ins) (k:Nat) (n:Int):List Ins:=r.set k {r.getD k Zsu with to:=n}
theorem Zdn (r:List Ins) (k:Nat) (n:Int):(Zay r k n).length=r.length:=x'6 ..
theorem ZoD: ∀{r:List Ins} {k:Nat} {n:Int},k<r.length→(y'Y r).flatten.set (k*7+6) (iD n)=(y'Y (Zay r k n)).flatten
 |[],_,_,h=>by simp at h
 |x::r,0,n,_=>rfl
 |x::r,k+1,n,h=>by
  have ih:=ZoD (r:=r) (k:=k) (n:=n) (by simpa using h)
  have e:(k+1)*7+6-(insR x).length=k*7+6:=by show _-7=_;omega
  have e2:(y'Y (x::r)).flatten=insR x++(y'Y r).flatten:=rfl
  rw[e2,List.set_append_right _ _ (by show 7≤_;omega),e,ih]
  rfl
theorem ZcF (b:Nat) (y:Yl) (g:G) (r:List Ins) (z:Nat×Nat) (k:Nat) (hg:gOk g r.length) (hk:k<r.length) (hr:r.length≤100000):Fun Tryz.prog 241 [.is (.pointer (some ⟨z.1,0,none⟩)),.is (.pointer (some ⟨z.2,0,none⟩))] (hoH b z k (yH b y g r [])) false
  (fun d H'=>d= .tup []∧H'=yH b y g (Zay r k r.length) []):=by
 have c1:=ZpA y r
 refine Fun.of T [] Tryz.func241 rfl Tryz.ntmps241 Tryz.results241 rfl (by kernel_rfl) ?_
 refine VC.nodup fun hn=>?_
 simp only[Heap.blocks,z'p,y'O,z'v,not_or]at hn
 obtain⟨⟨q1,q2,q3⟩,⟨q4,q5⟩,⟨q6,_⟩⟩:=hn
 have hfz:FzL (hoH b z k (yH b y g r [])) [.pt [x'E y.l,x't y.regs,x't y.locs,.sl false 7 (y'Y r)]] [ptB b]:=ZtW b y g r hg _ fun x hx=>z'o _ (z'o _ hx)
 rcases g with _|⟨bg,cg⟩
 ·have:r.length=0:=hg
  omega
 simp only[shp,z'p,y'a,z'v,y'P,or_false]at q3 q5 q6
 have hsf:=ZoD (n:=(r.length:Nat)) hk
 repeat' first|refine VC.drawS (id:=0) (by kernel_rfl) ?_|refine VCd.tail (f:=7) (by kernel_rfl) ?_;(try simp only[y'p,y'e])|refine VCd.group T (s:=0) 7 7 rfl rfl (by kernel_rfl) (by kernel_rfl) (by kernel_rfl) ?_;(try simp only[y'e,Nat.reduceSub])|refine gn ?_|apply VCg.step T rfl rfl;focus((try simp (disch:=omega) only[go_sem,Nat.reduceBEq]);(first|exact rfl|refine Op1.lend rfl rfl (c1) (hfz) (.inr rfl) ?_;exact⟨rfl,rfl⟩))|refine vs T rfl fun K hK=>?_;(try simp (disch:=omega) only[go_sem,Nat.reduceBEq,shp,hsf]);(first|refine hK _ _ ?_;clear hK K|refine⟨?_,hK _ _ ?_⟩<;>clear hK K;focus(try omega))|refine nl ?_|refine ov ?_
 ·rw[ZlJ];omega
 ·refine ZcN T rfl ((z'I _ _).trans (z'I _ _)) ⟨rfl,?_⟩
  simp only[yH,yC,Zdn,shp]
theorem ZbF {b:Nat} {c:HC}: ∀{H:Heap},H.blocks.Nodup→(b,c)∈H→y'V H b=some c
 |[],_,h=>by cases h
 |(k,x)::H,hn,h=>by
  simp only[Heap.blocks,z'p,y'O]at hn
  rcases z'v.1 h with e|h'
  ·cases e;exact hget_eq
  ·have hne:k≠b:=fun e=>hn.1 (e▸z'w.2 ⟨_,h',rfl⟩)
   rw[hget_ne hne]
   exact ZbF hn.2 h'
theorem OpS.nod {P:Program} {o:Oper} {E:Operand→D} {H:Heap} {Φ:D→Heap→Prop} (h:H.blocks.Nodup→OpS P o E H Φ):OpS P o E H Φ:=fun w L0 ε hi hx=>h hi.nodup w L0 ε hi hx
theorem Op1.toS {P:Program} {o:Oper} {E:Operand→D} {H:Heap} {K:D→Heap→Prop} (h:Op1 P o E H K):OpS P o E H K:=let ⟨_,h1,h2⟩:=h;h1.mono h2
theorem Fun.argsH {P:Program} {f:FuncId} {args args':List D} {H:Heap} {fr:Bool} {Φ:D→Heap→Prop} (h:Fun P f args' H fr Φ) (hf:FzL [] args' args):Fun P f args H fr Φ:=
 ⟨h.1,fun w L0 vs hi hr=>h.2 w L0 vs hi (RelL.fz ⟨hi,fun b c hm=>(by cases hm),fun b _ hl=>hl⟩ _ _ _ hf hr)⟩
abbrev Hs:=List ((Nat×Nat)×Nat)
def hsH (b:Nat):Hs→Heap→Heap
 |[],X=>X
 |z::s,X=>hoH b z.1 z.2 (hsH b s X)
def hsC (s:Hs):List D:=s.map fun z=>clD z.1
theorem Zrl (s:Hs):(hsC s).length=s.length:=z'i ..
noncomputable def cnH (b:Nat) (s:Hs) (a:Nat×HC):Nat:=cnt a (hsH b s [])
theorem ZlG (b:Nat): ∀(s:Hs) (X Y:Heap),hsH b s X++Y=hsH b s (X++Y)
 |[],X,Y=>rfl
 |z::s,X,Y=>by simp only[hsH,hoH,y'D,ZlG b s X Y]
theorem y'F (a:Nat×HC) (b:Nat) (s:Hs) (X:Heap):cnt a (hsH b s X)=cnH b s a+cnt a X:=by
 have:hsH b s X=hsH b s []++X:=by rw[ZlG];rfl
 rw[this,y'i];rfl
theorem Zo4 (b:Nat) (s:Hs) (z:(Nat×Nat)×Nat) (a:Nat×HC):cnH b (s++[z]) a=cnH b s a+(cn1 (z.1.2,.cells 3 1 [iD (z.2:Nat)]) a+cn1 (z.1.1,.cells 110 1 [ptB b]) a):=by
 have: ∀s:Hs,hsH b (s++[z]) []=hsH b s (hoH b z.1 z.2 []):=by
  intro s
  induction s with
  |nil=>rfl
  |cons w s ih=>simp only[y'D,hsH,ih]
 unfold cnH
 rw[this,y'F]
 simp only[hoH,y'c,y'k,cnH]
 omega
structure Lw where
 b8:Nat
 b4:Nat
 ge:G
 hs:Hs
abbrev lwH (b:Nat) (v:Lw) (X:Heap):Heap:=(v.b8,.cells 265 1 [.gs v.ge v.hs.length])::(v.b4,.cells 110 1 [ptB b])::shp v.ge 1 1 (hsC v.hs) (hsH b v.hs X)
abbrev jp0:Ins:=jpI 0
abbrev jpZ:List D:=[iD 20,iD 0,iD 0,.gs none 0,.gs none 0,bD false,iD 0]
theorem ZqA {b:Nat}:FzL [] [ptB b,.agg (insR jp0)] [ptB b,.agg jpZ]:=
 y'f (Fz.refl _ _) (y'f ⟨_,rfl,y'f (Fz.refl _ _) (y'f (Fz.refl _ _) (y'f (Fz.refl _ _) (y'f x'I (y'f x'I (FzL.refl _ _)))))⟩ Zak)
def lpA (b:Nat) (v:Lw) (y:Yl) (g:G) (r:List Ins):Heap:=lwH b v (yH b y g r [])
def Zko (b:Nat) (v:Lw) (y:Yl) (r:List Ins) (z:Nat×Nat) (g:G):Heap:=(v.b8,.cells 265 1 [.gs v.ge v.hs.length])::(v.b4,.cells 110 1 [ptB b])::shp v.ge 1 1 (hsC v.hs) (hsH b (v.hs++[(z,r.length)]) (yH b y g (r++[jp0]) []))
def lpC (b:Nat) (v:Lw) (y:Yl) (r:List Ins) (z:Nat×Nat) (g ge:G):Heap:=(v.b8,.cells 265 1 [.gs v.ge v.hs.length])::(v.b4,.cells 110 1 [ptB b])::shp ge 1 1 (hsC (v.hs++[(z,r.length)])) (hsH b (v.hs++[(z,r.length)]) (yH b y g (r++[jp0]) []))
theorem ZpI (b : Nat) (v : Lw) (y : Yl) (g : G) (r : List Ins) (hr : r.length ≤ 100000) (hv : v.hs.length ≤ 100000) : Fun Tryz.prog 243 [.is (.pointer (some ⟨v.b8, 0, none⟩)), .is (.pointer (some ⟨v.b4, 0, none⟩))] (lwH b v (yH b y g r [])) false
    (fun d H' => ∃ x : G × (Nat × Nat) × G, (gOk x.1 (r.length + 1) ∧ gOk x.2.2 (v.hs.length + 1)) ∧ d = .tup [] ∧ H' = lwH b ⟨v.b8, v.b4, x.2.2, v.hs ++ [(x.2.1, r.length)]⟩ (yH b y x.1 (r ++ [jp0]) [])) := by
  have ch := Fun.argsH (ZdN b y g r jp0 hr) ZqA
  refine Fun.of T [] Tryz.func243 rfl Tryz.ntmps243 Tryz.results243 rfl (by kernel_rfl) ?_
  refine VC.nodup fun hnd => ?_
  refine VC.drawS (id := 0) (by kernel_rfl) ?_
  refine VCd.sim (fun L E H => (E 0 = .is (.pointer (some ⟨v.b8, 0, none⟩)) ∧ E 1 = .is (.pointer (some ⟨v.b4, 0, none⟩))) ∧ (L 0 → E 2 = .gs v.ge v.hs.length) ∧ (L 1 → E 3 = ptB b) ∧ (L 2 → E 4 = .agg jpZ) ∧
    (((¬ L 3 ∧ ¬ L 4 ∧ ¬ L 5) ∧ H.Perm (lpA b v y g r)) ∨
     ((L 3 ∧ ¬ L 5) ∧ ∃ z : G × Nat × Nat, gOk z.1 (r.length + 1) ∧ E 5 = clD z.2 ∧ (L 4 → E 6 = .sl true 1 [[clD z.2]]) ∧ H.Perm (Zko b v y r z.2 z.1)) ∨
     ((L 3 ∧ L 4 ∧ L 5) ∧ ∃ x : G × (Nat × Nat) × G, (gOk x.1 (r.length + 1) ∧ gOk x.2.2 (v.hs.length + 1)) ∧ E 7 = .gs x.2.2 (v.hs.length + 1) ∧ H.Perm (lpC b v y r x.2.1 x.1 x.2.2)))) 0 6 6 rfl rfl (by kernel_rfl) (by kernel_rfl) (by kernel_rfl) ?_ ?_ ?_
  · exact ⟨⟨rfl, rfl⟩, fun h => absurd h (by omega), fun h => absurd h (by omega), fun h => absurd h (by omega), .inl ⟨⟨by omega, by omega, by omega⟩, y't _⟩⟩
  · rintro L E H i o ⟨⟨a0, a1⟩, k0, k1, k2, k3⟩ ho _ hi hL hed
    have m8 : (v.b8, HC.cells 265 1 [.gs v.ge v.hs.length]) ∈ H ∧ (v.b4, HC.cells 110 1 [ptB b]) ∈ H := by
      rcases k3 with ⟨_, hp⟩ | ⟨_, z, _, _, _, hp⟩ | ⟨_, x, _, _, hp⟩
      all_goals exact ⟨hp.symm.subset (z't ..), hp.symm.subset (z'o _ (z't ..))⟩
    have hi6 : i = 0 ∨ i = 1 ∨ i = 2 ∨ i = 3 ∨ i = 4 ∨ i = 5 := by omega
    rcases hi6 with rfl | rfl | rfl | rfl | rfl | rfl
    all_goals
      simp only [x'N, x'j, x'D, z'L] at ho
      subst ho
      refine ⟨rfl, OpS.nod fun hnH => ?_⟩
      have g8 := ZbF hnH m8.1
      have g4 := ZbF hnH m8.2
    · refine Zje T fun K hK => ?_
      simp (disch := omega) only [go_sem, Nat.reduceBEq, Nat.reduceAdd, Nat.reduceMul, Nat.reduceSub, Nat.reduceLeDiff, Int.reduceToNat, a0, g8]
      refine hK _ _ ⟨by simp [updO, upd, a0, a1], fun _ => by simp [updO, upd], fun h => by simpa [updO, upd] using k1 (by simpa using h), fun h => by simpa [updO, upd] using k2 (by simpa using h), ?_⟩
      simpa [updO, upd] using k3
    · refine Zje T fun K hK => ?_
      simp (disch := omega) only [go_sem, Nat.reduceBEq, Nat.reduceAdd, Nat.reduceMul, Nat.reduceSub, Nat.reduceLeDiff, Int.reduceToNat, a1, g4]
      refine hK _ _ ⟨by simp [updO, upd, a0, a1], fun h => by simpa [updO, upd] using k0 (by simpa using h), fun _ => by simp [updO, upd], fun h => by simpa [updO, upd] using k2 (by simpa using h), ?_⟩
      simpa [updO, upd] using k3
    · refine Zje T fun K hK => ?_
      simp (disch := omega) only [go_sem, Nat.reduceBEq, Nat.reduceAdd, Nat.reduceMul, Nat.reduceSub, Nat.reduceLeDiff, Int.reduceToNat, a1]
      refine hK _ _ ⟨by simp [updO, upd, a0, a1], fun h => by simpa [updO, upd] using k0 (by simpa using h), fun h => by simpa [updO, upd] using k1 (by simpa using h), fun _ => by simp [updO, upd], ?_⟩
      simpa [updO, upd] using k3
    · have e3 := k1 (hed ⟨1, .data⟩ (by simp) (by decide))
      have e4 := k2 (hed ⟨2, .data⟩ (by simp) (by decide))
      have hA : (¬ L 3 ∧ ¬ L 4 ∧ ¬ L 5) ∧ H.Perm (lpA b v y g r) := by
        rcases k3 with h | ⟨⟨h, _⟩, _⟩ | ⟨⟨h, _⟩, _⟩
        · exact h
        · exact absurd h hL
        · exact absurd h hL
      refine Op1.toS ?_
      refine Op1.cally (Hp := yH b y g r []) (Hr := (v.b8, .cells 265 1 [.gs v.ge v.hs.length]) :: (v.b4, .cells 110 1 [ptB b]) :: shp v.ge 1 1 (hsC v.hs) (hsH b v.hs [])) rfl rfl ch (by simp [evD, e3, e4]) ?_ (fun z hz => ?_)
      · refine hA.2.trans (y'n fun a => by simp only [lpA, lwH, yH, y'y, y'F, y'c, y'i, y'k]; omega)
      · refine ⟨by simp [updO, upd, a0, a1], fun h => by simpa [updO, upd] using k0 (by simpa using h), fun h => by simpa [updO, upd] using k1 (by simpa using h), fun h => by simpa [updO, upd] using k2 (by simpa using h), .inr (.inl ⟨⟨.inl rfl, by simpa using hA.1.2.2⟩, z, hz, by simp [updO, upd], fun h => absurd h (by simpa using hA.1.2.1), ?_⟩)⟩
        exact y'n fun a => by simp only [Zko, yH, hoH, y'y, y'F, Zo4, y'c, y'i, y'k]; omega
    · have hB : (L 3 ∧ ¬ L 5) ∧ ∃ z : G × Nat × Nat, gOk z.1 (r.length + 1) ∧ E 5 = clD z.2 ∧ (L 4 → E 6 = .sl true 1 [[clD z.2]]) ∧ H.Perm (Zko b v y r z.2 z.1) := by
        have h3 := hed ⟨3, .data⟩ (by simp) (by decide)
        rcases k3 with ⟨⟨h, _⟩, _⟩ | h | ⟨⟨_, h, _⟩, _⟩
        · exact absurd h3 h
        · exact h
        · exact absurd h hL
      obtain ⟨hl, z, hz, e5, _, hp⟩ := hB
      refine Zje T fun K hK => ?_
      simp (disch := omega) only [go_sem, Nat.reduceBEq, Nat.reduceAdd, Nat.reduceMul, Nat.reduceSub, Nat.reduceLeDiff, Int.reduceToNat, e5]
      refine hK _ _ ⟨by simp [updO, upd, a0, a1], fun h => by simpa [updO, upd] using k0 (by simpa using h), fun h => by simpa [updO, upd] using k1 (by simpa using h), fun h => by simpa [updO, upd] using k2 (by simpa using h), .inr (.inl ⟨by simpa using hl, z, hz, by simpa [updO, upd] using e5, fun _ => by simp [updO, upd], hp⟩)⟩
    · have h3 := hed ⟨3, .chain⟩ (by simp) (by decide)
      have h4 := hed ⟨4, .data⟩ (by simp) (by decide)
      have e2 := k0 (hed ⟨0, .data⟩ (by simp) (by decide))
      have hB : ∃ z : G × Nat × Nat, gOk z.1 (r.length + 1) ∧ E 6 = .sl true 1 [[clD z.2]] ∧ H.Perm (Zko b v y r z.2 z.1) := by
        rcases k3 with ⟨⟨h, _⟩, _⟩ | ⟨_, z, h1, h2, h3, h5⟩ | ⟨⟨_, _, h⟩, _⟩
        · exact absurd h3 h
        · exact ⟨z, h1, h3 h4, h5⟩
        · exact absurd h hL
      obtain ⟨z, hz, e6, hp⟩ := hB
      refine Op1.toS (Op1.perm hp (w'O T ?_))
      simp (disch := omega) only [go_sem, Nat.reduceBEq, Nat.reduceAdd, Nat.reduceMul, Nat.reduceSub, Nat.reduceLeDiff, Int.reduceToNat, e2, e6, Zko]
      refine ⟨_, _, _, _, (by repeat (first | exact Sp.here | exact Sp.nil | apply Sp.cons | apply Sp.over)), ?_, (by first | exact ⟨rfl, rfl⟩ | exact ⟨rfl, rfl, rfl⟩), ?_, fun g' hg' => ?_⟩
      · rw [Zrl, w'z]
      · omega
      · refine ⟨⟨a0, a1⟩, fun _ => trivial, fun h => k1 (by simpa using h), fun h => k2 (by simpa using h), .inr (.inr ⟨⟨.inr h3, .inr h4, .inl trivial⟩, (z.1, z.2, g'), ⟨hz, hg'⟩, ?_, ?_⟩)⟩
        · rfl
        · rw [show hsC v.hs ++ [clD z.2] = hsC (v.hs ++ [(z.2, r.length)]) by simp [hsC]]
          exact y't _
  · rintro E H ⟨⟨a0, a1⟩, _, _, _, k3⟩
    have hC : ∃ x : G × (Nat × Nat) × G, (gOk x.1 (r.length + 1) ∧ gOk x.2.2 (v.hs.length + 1)) ∧ E 7 = .gs x.2.2 (v.hs.length + 1) ∧ H.Perm (lpC b v y r x.2.1 x.1 x.2.2) := by
      rcases k3 with ⟨⟨h, _⟩, _⟩ | ⟨⟨_, h⟩, _⟩ | ⟨_, h⟩
      · exact absurd (by decide) h
      · exact absurd (by decide) h
      · exact h
    obtain ⟨x, hx, e7, hp⟩ := hC
    refine VCd.weak (Weak.perm hp) ?_
    refine VCd.tail (f := 6) (by kernel_rfl) ?_
    simp only [y'p, y'e, List.drop_nil]
    refine VCo.weak (z'O (env' := [(0, .is (.pointer (some ⟨v.b8, 0, none⟩))), (7, .gs x.2.2 (v.hs.length + 1))]) rfl (by simp [sub, a0, e7])) ?_
    simp only [lpC]
    refine ov ?_
    repeat' first | refine vs T rfl fun K hK => ?_; (try simp (disch := omega) only [go_sem, Nat.reduceBEq, Nat.reduceLeDiff]); (refine hK _ _ ?_; clear hK K) | refine nl ?_
    refine ZcN T rfl (z'n _) ⟨x, hx, rfl, ?_⟩
    simp only [lwH, z'e, List.length_singleton]
end Go.Proofs.YthlkpnjjkgmlkaaGreat
