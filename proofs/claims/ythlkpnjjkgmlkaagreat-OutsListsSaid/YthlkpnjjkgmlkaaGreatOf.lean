/- Contracts: what one list of texts has more than another one, by a map. No condition. -/
import Derived.Test.YthlkpnjjkgmlkaaGreatOd
namespace Go.Proofs.YthlkpnjjkgmlkaaGreat
set_option maxHeartbeats 16000000
set_option linter.unusedSimpArgs false
set_option linter.unusedVariables false
set_option maxRecDepth 20000
open Go Go.Proofs Go.Vc
attribute [local irreducible] x'c VCg VCw VCx
theorem zK3:(Tryz.prog.info? 3).bind (·.zero)=some (.int .i64 0):=by kernel_rfl
theorem Zre {l:List ByteArray} {k:Nat} (h:k<l.length) (t:ByteArray):t∈l.take (k+1)↔t∈l.take k∨t=l.getD k emp:=by
 rw[y'e,v'p (d:=emp) h,y'Y,z'W,z'V]
theorem Zru {g:Option (Nat×Nat)} {e:TypeId} {esz b:Nat} {l:List D} {c:HC} (hn:(shp g e esz l [(b,c)]).blocks.Nodup):y'0 (shp g e esz l [(b,c)]) b=some c:=by
 cases g with
 |none=>exact hget_eq
 |some p=>
  simp only[shp,Heap.blocks,z'm,y'F,z't,not_or]at hn
  exact(hget_ne hn.1.1).trans hget_eq
theorem Zm4 {g:Option (Nat×Nat)} {e:TypeId} {esz:Nat} {l:List D} {X:Heap}:(shp g e esz l []).Sublist (shp g e esz l X):=by
 cases g with
 |none=>exact z'a _
 |some p=>exact List.Sublist.cons_cons _ (z'a _)
theorem Zix (a b:List ByteArray) (ha:a.length≤1000000) (hb:b.length≤1000000):Pure Tryz.prog 42 [tlD a,tlD b] (tlD (y'O a b)):=by
 refine Fun.freeze (ZiJ _) ?_
 refine Fun.of T [.tmp 4] Tryz.func42 rfl Tryz.ntmps42 Tryz.results42 rfl (by kernel_rfl) ?_
 repeat' first|refine vt rfl fun K hK=>?_;refine Zci rfl umK (fun x hx=>(by cases hx))<|fun bm hbm=>?_;refine hK _ _ ?_;clear hK K;(try simp only[updO])|refine vs T rfl fun K hK=>?_;(try simp (disch:=omega) only[go_sem,Nat.reduceBEq,x'x]);(refine hK _ _ ?_;clear hK K)|refine st rfl ?_|refine nl ?_
 refine VC.loop {p:Nat×Km×Nat//p.1≤a.length∧KmOk p.2.1 p.2.2 p.1∧ ∀t,t∈kmK p.2.1↔t∈a.take p.1} (fun p=>⟨y'd [(1,tlD b),(5,mpD bm),(12,tlD a),(13,iD (a.length:Nat)),(14,iD (p.1.1:Nat))],[kmH bm p.1.2.2 p.1.2.1]⟩) (fun p=>a.length-p.1.1) ⟨(0,[],0),y'f _,KmOk.nil,fun t=>by simp[kmK]⟩ ?_ ?_
 ·refine z'S rfl ?_
  simp[sub,upd,mpD]
 rintro⟨⟨k,l,c⟩,hk,hl,hm⟩
 dsimp only at hk hl hm⊢
 rcases z'j k a.length with hlt|hge
 ·have hv:=ZkQ (s:=a.getD k emp) hl
  repeat' first|refine vt rfl fun K hK=>?_;refine ZeL rfl umK uK9 zK3 rfl rfl hget_eq ?_;refine hK _ _ ?_;clear hK K;(try simp only[updO])|refine vt rfl fun K hK=>?_;refine ZmQ (l:=l) (s:=a.getD k emp) rfl umK uK9 rfl rfl rfl hget_eq ?_;refine hK _ _ ?_;clear hK K;(try simp only[updO])|refine vs T rfl fun K hK=>?_;(try simp (disch:=omega) only[go_sem,Nat.reduceBEq,Zbo,w64,z'q]);(first|refine hK _ _ ?_;clear hK K|refine⟨?_,hK _ _ ?_⟩<;>clear hK K;focus(try omega))|refine st rfl ?_|refine sc rfl ?_|refine nl ?_|with_reducible refine z'B (fun hc=>?_) (fun hc=>?_)<;>(try simp only[decide_eq_true_eq,decide_eq_false_iff_not,z'F]at hc)<;>(try(exfalso;omega))
  refine⟨⟨(k+1,(v'X l c (a.getD k emp)).1,(v'X l c (a.getD k emp)).2),by dsimp only;omega,ZkP hl,fun t=>?_⟩,z'S ?_ ?_,by dsimp only;omega⟩
  ·dsimp only
   rw[ZhL,Zre hlt,hm]
  ·simp only[kmH,Vc.hset,beq_self_eq_true,cond_true]
  ·simp[sub,upd,mpD]
 ·obtain rfl:k=a.length:=by omega
  rw[z'Y]at hm
  repeat' first|refine vs T rfl fun K hK=>?_;(try simp (disch:=omega) only[go_sem,Nat.reduceBEq,x'x]);(refine hK _ _ ?_;clear hK K)|refine st rfl ?_|refine sc rfl ?_|refine nl ?_|with_reducible refine z'B (fun hc=>?_) (fun hc=>?_)<;>(try simp only[decide_eq_true_eq,decide_eq_false_iff_not,z'F]at hc)<;>(try(exfalso;omega))
  refine VC.loop {p:Nat×Option (Nat×Nat)//p.1≤b.length} (fun p=>⟨y'd [(5,mpD bm),(8,.gs p.1.2 (y'O a (b.take p.1.1)).length),(23,tlD b),(24,iD (b.length:Nat)),(25,iD (p.1.1:Nat))],shp p.1.2 9 1 ((y'O a (b.take p.1.1)).map sD) [kmH bm c l]⟩) (fun p=>b.length-p.1.1) ⟨(0,none),by simp⟩ ?_ ?_
  ·refine z'S rfl ?_
   simp[sub,upd,mpD,y'O,x'x]
  rintro⟨⟨k,g⟩,hk⟩
  dsimp only at hk⊢
  have hll:=Ziw a (b.take k)
  rw[z'y]at hll
  have hfl:=Zn4 (y'O a (b.take k))
  refine VC.nodup fun hn=>?_
  have y'0:=Zru hn
  rcases z'j k b.length with hlt|hge
  ·have hv:=ZkQ (s:=b.getD k emp) hl
   cases hi:inT a (b.getD k emp)with
   |true=>
    have hy:=Zmz (s:=b.getD k emp) hl ((hm _).2 (ZbQ.1 hi))
    have he:(kmV l (b.getD k emp) == 0)=false:=by rw[beq_eq_false_iff_ne];omega
    repeat' first|refine vt rfl fun K hK=>?_;refine ZeL rfl umK uK9 zK3 rfl rfl y'0 ?_;refine hK _ _ ?_;clear hK K;(try simp only[updO])|refine vs T rfl fun K hK=>?_;(try simp (disch:=omega) only[go_sem,Nat.reduceBEq,Zbo,w64,z'q,he]);(first|refine hK _ _ ?_;clear hK K|refine⟨?_,hK _ _ ?_⟩<;>clear hK K;focus(try omega))|refine st rfl ?_|refine sc rfl ?_|refine nl ?_|with_reducible refine z'B (fun hc=>?_) (fun hc=>?_)<;>(try simp only[decide_eq_true_eq,decide_eq_false_iff_not,z'F]at hc)<;>(try(exfalso;omega))
    refine⟨⟨(k+1,g),by dsimp only;omega⟩,z'S (by rw[Zf7 hlt hi]) ?_,by dsimp only;omega⟩
    simp[sub,upd,mpD,Zf7 hlt hi]
   |false=>
    have he:(kmV l (b.getD k emp) == 0)=true:=by rw[ZoY fun h=>by rw[(hm _)]at h;rw[ZbQ.2 h]at hi;cases hi];rfl
    repeat' first|refine vt rfl fun K hK=>?_;refine ZeL rfl umK uK9 zK3 rfl rfl y'0 ?_;refine hK _ _ ?_;clear hK K;(try simp only[updO])|refine vs T rfl fun K hK=>?_;(try simp (disch:=omega) only[go_sem,Nat.reduceBEq,Nat.reduceMul,Nat.reduceLeDiff,Zbo,w64,z'q,he]);(first|refine hK _ _ ?_;clear hK K|refine⟨_,_,_,_,(by repeat (exact Sp.here)),?_,(by exact⟨rfl,rfl⟩),⟨by decide,?_⟩,fun g' hg'=>hK _ _ ?_⟩<;>clear hK K|refine⟨?_,hK _ _ ?_⟩<;>clear hK K;focus(try omega))|refine st rfl ?_|refine sc rfl ?_|refine nl ?_|with_reducible refine z'B (fun hc=>?_) (fun hc=>?_)<;>(try simp only[decide_eq_true_eq,decide_eq_false_iff_not,z'F]at hc)<;>(try(exfalso;omega))
    ·exact hfl
    ·omega
    ·refine⟨⟨(k+1,g'),by dsimp only;omega⟩,z'S (by rw[Zf6 hlt hi,z'v];rfl) ?_,by dsimp only;omega⟩
     simp[sub,upd,mpD,Zf6 hlt hi, -List.getD_eq_getElem?_getD]
  ·obtain rfl:k=b.length:=by omega
   repeat' first|refine vs T rfl fun K hK=>?_;(try simp (disch:=omega) only[go_sem,Nat.reduceBEq]);(refine hK _ _ ?_;clear hK K)|refine st rfl ?_|refine sc rfl ?_|refine nl ?_|with_reducible refine z'B (fun hc=>?_) (fun hc=>?_)<;>(try simp only[decide_eq_true_eq,decide_eq_false_iff_not,z'F]at hc)<;>(try(exfalso;omega))
   refine z'A T (H':=shp g 9 1 ((y'O a (b.take b.length)).map sD) []) Zm4 ⟨g,9,?_,?_⟩
   ·rw[x'x,z'Y];rfl
   ·rw[Zg6,z'Y]
theorem Za8 (a b:List ByteArray) (ha:a.length≤1000000) (hb:b.length≤1000000):Pure Tryz.prog 43 [tlD a,tlD b] (bD (decide (y'O b a=[]))):=by
 have c1:=Zix b a hb ha
 refine Fun.of T [.tmp 4] Tryz.func43 rfl Tryz.ntmps43 Tryz.results43 rfl (by kernel_rfl) ?_
 cases h:decide (y'O b a=[])with
 |true=>
  rw[of_decide_eq_true h]at c1
  repeat' first|refine vs T rfl fun K hK=>?_;(try simp (disch:=omega) only[go_sem,Nat.reduceBEq]);(first|refine hK _ _ ?_;clear hK K|refine Op1.callp rfl rfl (c1) rfl ?_;refine hK _ _ ?_;clear hK K)|refine st rfl ?_|refine nl ?_|exact z'A T (z'a _) ⟨rfl,rfl⟩
 |false=>
  have h1:=of_decide_eq_false h
  have h2:0<(y'O b a).length:=List.length_pos_iff.2 h1
  repeat' first|refine vs T rfl fun K hK=>?_;(try simp (disch:=omega) only[go_sem,Nat.reduceBEq,x'x]);(first|refine hK _ _ ?_;clear hK K|refine Op1.callp rfl rfl (c1) rfl ?_;refine hK _ _ ?_;clear hK K)|refine st rfl ?_|refine nl ?_|refine z'A T (z'a _) ?_;(try simp only[upd,Nat.reduceBEq,cond_true,cond_false,and_true])
  refine congrArg bD (beq_eq_false_iff_ne.2 ?_)
  omega
abbrev SL (l:List ByteArray):Prop:=l.Pairwise fun x y=>bL x y=true
def Zg0 (l:List ByteArray) (s:ByteArray):List ByteArray:=l.takeWhile (fun x=>bL x s)++s::l.dropWhile (fun x=>bL x s)
theorem Zlb {l:List ByteArray} {s t:ByteArray}:t∈Zg0 l s↔t=s∨t∈l:=by
 unfold Zg0
 rw[z'W,z't]
 constructor
 ·rintro(h|rfl|h)
  ·exact .inr ((List.takeWhile_sublist _).subset h)
  ·exact .inl rfl
  ·exact .inr ((List.dropWhile_sublist _).subset h)
 ·rintro(rfl|h)
  ·exact .inr (.inl rfl)
  ·rw[←List.takeWhile_append_dropWhile (p:=fun x=>bL x s) (l:=l),z'W]at h
   exact h.imp id .inr
theorem SL.put: ∀{l:List ByteArray} {s:ByteArray},SL l→s∉l→SL (Zg0 l s)
 |[],s,_,_=>by simp[Zg0]
 |x::l,s,h,hs=>by
  replace h:=List.pairwise_cons.1 h
  have hne:x≠s:=fun e=>hs (e▸z'n ..)
  unfold Zg0
  cases hx:bL x s with
  |true=>
   rw[List.takeWhile_cons,hx,List.dropWhile_cons,hx]
   simp only[if_true,z'N]
   have ih:=SL.put h.2 fun hm=>hs (z'k _ hm)
   refine List.pairwise_cons.2 ⟨fun y hy=>?_,ih⟩
   rcases Zlb.1 hy with rfl|hy
   ·exact hx
   ·exact h.1 y hy
  |false=>
   rw[List.takeWhile_cons,hx,List.dropWhile_cons,hx]
   simp only[y'Z,if_false,z'H]
   have hsx:bL s x=true:=by
    cases hq:bL s x with
    |true=>rfl
    |false=>exact absurd (ZjR hx hq) hne
   refine List.pairwise_cons.2 ⟨fun y hy=>?_,List.pairwise_cons.2 h⟩
   rcases z't.1 hy with rfl|hy
   ·exact hsx
   ·exact Zjy hsx (h.1 y hy)
theorem SL.ext: ∀{l m:List ByteArray},SL l→SL m→(∀t,t∈l↔t∈m)→l=m
 |[],[],_,_,_=>rfl
 |[],y::m,_,_,h=>by have:=(h y).2 (z'n ..);cases this
 |x::l,[],_,_,h=>by have:=(h x).1 (z'n ..);cases this
 |x::l,y::m,hl,hm,h=>by
  rw[SL,List.pairwise_cons]at hl hm
  have e:x=y:=by
   rcases z't.1 ((h x).1 (z'n ..))with e|hx
   ·exact e
   ·rcases z't.1 ((h y).2 (z'n ..))with e|hy
    ·exact e.symm
    ·have:=Zjy (hl.1 y hy) (hm.1 x hx)
     rw[ZdN]at this;cases this
  subst e
  rw[SL.ext hl.2 hm.2 fun t=>?_]
  have h1:t∈l→t≠x:=fun ht e=>by subst e;have:=hl.1 _ ht;rw[ZdN]at this;cases this
  have h2:t∈m→t≠x:=fun ht e=>by subst e;have:=hm.1 _ ht;rw[ZdN]at this;cases this
  have:=h t
  rw[z't,z't]at this
  exact⟨fun ht=>(this.1 (.inr ht)).resolve_left (h1 ht),fun ht=>(this.2 (.inr ht)).resolve_left (h2 ht)⟩
def Zb2 (l:List ByteArray):List ByteArray:=l.foldl (fun out s=>match inT out s with|true=>out|false=>Zg0 out s) []
theorem Zpb (l:List ByteArray) (s:ByteArray):Zb2 (l++[s])=match inT (Zb2 l) s with|true=>Zb2 l|false=>Zg0 (Zb2 l) s:=by
 unfold Zb2
 rw[List.foldl_append]
 rfl
theorem ZmI: ∀l:List ByteArray,SL (Zb2 l)∧ ∀t,t∈Zb2 l↔t∈l:=by
 intro l
 induction h:l.length generalizing l with
 |zero=>obtain rfl:=z'C h;exact⟨List.Pairwise.nil,fun t=>Iff.rfl⟩
 |succ n ih=>
  obtain⟨l',s,rfl⟩: ∃l' s,l=l'++[s]:=⟨l.dropLast,l.getLast (fun e=>by rw[e]at h;cases h),(List.dropLast_concat_getLast _).symm⟩
  rw[z'h]at h
  obtain⟨h1,h2⟩:=ih l' (by simpa using h)
  rw[Zpb]
  cases hi:inT (Zb2 l') s with
  |true=>
   refine⟨h1,fun t=>?_⟩
   have hm:=(h2 s).1 (ZbQ.1 hi)
   rw[h2,z'W,z'V]
   exact⟨.inl,fun h=>h.elim id fun e=>e▸hm⟩
  |false=>
   refine⟨h1.put (fun hm=>by rw[ZbQ.2 hm]at hi;cases hi),fun t=>?_⟩
   rw[Zlb,h2,z'W,z'V]
   exact Or.comm
theorem Zst {l m:List ByteArray} (h:SL m) (hm: ∀t,t∈m↔t∈l):m=Zb2 l:=h.ext (ZmI l).1 fun t=>(hm t).trans ((ZmI l).2 t).symm
theorem SL.snoc {l:List ByteArray} {s:ByteArray} (h:SL l) (hs: ∀x,x∈l→bL x s=true):SL (l++[s]):=by
 refine List.pairwise_append.2 ⟨h,List.pairwise_singleton _ _,fun x hx y hy=>?_⟩
 rw[z'V]at hy
 subst hy
 exact hs x hx
end Go.Proofs.YthlkpnjjkgmlkaaGreat
