/- Contracts: the program's operators, and how many numbers lie there. No condition. -/
import Derived.Test.YtjlnkedmbfdofaaGreatXe
import Derived.Test.YtjlnkedmbfdofaaGreatK2
import Derived.Test.YtjlnkedmbfdofaaGreatYo
namespace Go.Proofs.YtjlnkedmbfdofaaGreat
set_option linter.unusedSimpArgs false
set_option linter.unusedVariables false
set_option maxRecDepth 20000
open Go Go.Proofs Go.Vc
attribute [local irreducible] z'Z VCg VCw VCx
abbrev G:=Option (Nat×Nat)
theorem Zma {g:G} {e:TypeId} {esz:Nat} {l:List D} {X:Heap} {x:Nat×HC} (h:x∈X):x∈shp g e esz l X:=by
 cases g with
 |none=>exact h
 |some p=>exact z'n _ h
theorem ZkI {b cap:Nat} {e:TypeId} {esz:Nat} {l:List D} {X:Heap}:(b,HC.cells e (cap*esz) l)∈shp (some (b,cap)) e esz l X:=z'k ..
abbrev OR:=List (G×List Int)
def rgC (rs:OR):List D:=rs.map fun p=> .gs p.1 p.2.length
def rgH:OR→Heap→Heap
 |[],X=>X
 |p::rs,X=>shp p.1 3 1 (p.2.map iD) (rgH rs X)
theorem VCo.weak {P:Program} {n:Nat} {ops:Array Oper} {l:List Oper} {s s':St} {Q:Exit→St→Prop} (h:Weak s s') (hv:VCo P n ops l s' Q):VCo P n ops l s Q:=fun x a w hn hs=>hv x a w hn (h x a w hs)
structure OC where
 gp:G
 gr:G
 gm:G
 gb:G
 rs:OR
structure OC.ok (q:OC) (c:Cf):Prop where
 pc:gOk q.gp c.pc.length
 gr:gOk q.gr c.regs.length
 mem:gOk q.gm c.mem.length
 bufs:gOk q.gb c.bufs.length
 rows:q.rs.map (·.2)=c.regs
 row: ∀p,p∈q.rs→gOk p.1 p.2.length
def OC.cs (q:OC) (c:Cf):List D:=[.gs q.gp c.pc.length,.gs q.gr c.regs.length,.gs q.gm c.mem.length,.gs q.gb c.bufs.length]
def OC.h (q:OC) (c:Cf) (X:Heap):Heap:=shp q.gp 3 1 (c.pc.map iD) (shp q.gr 28 1 (rgC q.rs) (shp q.gm 3 1 (c.mem.map iD) (shp q.gb 251 1 (c.bufs.map buf) (rgH q.rs X))))
theorem Zaq {H:Heap}: ∀(rs:OR),(∀p,p∈rs→gOk p.1 p.2.length)→(∀x,x∈rgH rs []→x∈H)→FzR H 1 (Zn4 (rs.map (·.2))) (rgC rs)
 |[],_,_=>trivial
 |p::rs,hg,hm=>by
  refine⟨rfl,⟨_,_,rfl,ZcL (e:=3) (hg p (z'k ..)) (fun b cap hb=>hm _ ?_),trivial⟩,?_⟩
  ·rw[rgH,hb];exact ZkI
  ·exact Zaq rs (fun p hp=>hg p (z'n _ hp)) (fun x hx=>hm x (Zma hx))
theorem Fun.perm {P:Program} {f:FuncId} {args:List D} {H:Heap} {fr:Bool} {Φ Ψ:D→Heap→Prop} (h:Fun P f args H fr Φ) (hk: ∀d H',Φ d H'→ ∃H'',H'.Perm H''∧Ψ d H''):Fun P f args H fr Ψ:=
 ⟨h.1,fun w L0 vs hi hr=>(h.2 w L0 vs hi hr).mono fun e w' ⟨v,he,d,H',h1,h2,h3,h4⟩=>by
  obtain⟨H'',hp,hψ⟩:=hk d H' h1
  exact⟨v,he,d,H'',hψ,by rw[v'a hp];exact h2,h3.perm hp,h4.perm (.refl _) hp⟩⟩
theorem ZjO {H X:Heap} (h:(H++X).blocks.Nodup): ∀b,b∈H.blocks→b∉X.blocks:=by
 simp only[Heap.blocks,z'y]at h
 obtain⟨_,_,h3⟩:=z'6.1 h
 exact fun b hp hr=>h3 b hp b hr rfl
theorem FzL.length {H:Heap}: ∀{l' l:List D},FzL H l' l→l'.length=l.length
 |[],_,h=>by cases h;rfl
 |_::_,_,h=>by
  obtain⟨d,ds,rfl,_,h2⟩:=h
  rw[z'A,z'A,FzL.length h2]
theorem FzL.append {H:Heap}: ∀{l' l m' m:List D},FzL H l' l→FzL H m' m→FzL H (l'++m') (l++m)
 |[],_,_,_,h,h2=>by cases h;exact h2
 |_::_,_,_,_,h,h2=>by
  obtain⟨d,ds,rfl,q1,q2⟩:=h
  exact⟨d,ds++_,rfl,q1,FzL.append q2 h2⟩
theorem HRel.cut {w:World} {L:Nat→Prop} {b n k:Nat} {ty:TypeId} {l:List D} (h:HRel w L b (.cells ty n l)):HRel w L b (.cells ty n (l.take k)):=by
 obtain⟨h1,arr,h2,h3,h4⟩:=h
 refine⟨w'p h1 k,arr,h2,h3,?_⟩
 have:=RelL.take k _ _ h4
 rw[List.take_take]at this
 rwa [z'z]
theorem Weak.cut {env:Nat→D} {g:Option (Nat×Nat)} {e:TypeId} {esz k:Nat} {l:List D} {X:Heap}:Weak ⟨env,shp g e esz l X⟩ ⟨env,shp g e esz (l.take k) X⟩:=fun x a w h=>by
 cases g with
 |none=>exact h
 |some p=>
  obtain⟨b,cap⟩:=p
  have hbl:(shp (some (b,cap)) e esz (l.take k) X).blocks=(shp (some (b,cap)) e esz l X).blocks:=rfl
  have hlv:live (shp (some (b,cap)) e esz (l.take k) X) x.L0=live (shp (some (b,cap)) e esz l X) x.L0:=by
   funext b'
   simp only[live,hbl]
  refine{env:=fun t=>by rw[hlv];exact h.env t,inv:=?_,evo:=?_,defers:=h.defers,size:=h.size}
  ·refine{rel:=fun b' c hm=>?_,nodup:=by rw[hbl];exact h.inv.nodup,apart:=fun b' hb=>h.inv.apart b' (by rw[←hbl];exact hb),old:=h.inv.old}
   rw[hlv]
   rcases z'p.1 hm with hm|hm
   ·cases hm
    exact HRel.cut (h.inv.rel b _ (z'k ..))
   ·exact h.inv.rel b' c (z'n _ hm)
  ·exact⟨h.evo.os,h.evo.tape,h.evo.output,h.evo.size,h.evo.block,fun b' hb=>h.evo.fresh b' (by rw[←hbl];exact hb)⟩
def w'A (u:Un) (row:List Int) (l:List Opc):Int:=Zi7 l u.md row [] []
def enB (c:Cf) (m r:Int) (t:Int) (x:Ins) (b:List En) (e:Int):Bool:=
 if x.op=22 then false else if x.op=4 then(m == 1)||Zc6 m r x.loc b else if x.op=8∨x.op=5∨x.op=6∨x.op=7 then(b.length:Int) == 0 else if x.op=9 then((ZaZ c t x.loc == e) != x.ne)else true
structure AtX (u:Un) (c:Cf) (i:Nat) (x:Ins):Prop where
 pc: ∃rw p,c.pc[i]?=some p∧u.code[i]?=some rw∧0≤p∧rw[p.toNat]?=some x
def ZeR (u:Un) (c:Cf) (i:Nat):Option Ins:=(u.code[i]?).bind fun rw=>(c.pc[i]?).bind fun p=>if 0≤p then rw[p.toNat]? else none
theorem AtX.ins {u:Un} {c:Cf} {i:Nat} {x:Ins} (h:AtX u c i x):ZeR u c i=some x:=by
 obtain⟨rw,p,h1,h2,h3,h4⟩:=h.pc
 simp[ZeR,h1,h2,h3,h4]
def enT (u:Un) (c:Cf) (m r t:Int):Bool:=match decide (0≤t),ZeR u c t.toNat with
 |true,some x=>enB c m r t x (c.bufs.getD t.toNat []) (w'A u (c.regs.getD t.toNat []) x.e)
 |_,_=>false
structure Thr (u:Un) (c:Cf) (i:Nat) (x:Ins) (row:List Int) (b:List En):Prop where
 at_:AtX u c i x
 reg:c.regs[i]?=some row
 buf:c.bufs[i]?=some b
 e:x.e.length≤1000
 f:x.f.length≤1000
theorem ZmH {u:Un} {c:Cf} {m r:Int} {i:Nat} {x:Ins} {row:List Int} {b:List En} (h:Thr u c i x row b):enT u c m r (i:Nat)=enB c m r (i:Nat) x b (w'A u row x.e):=by
 simp[enT,h.at_.ins,h.reg,h.buf,z'e]
theorem ZmI {u:Un} {c:Cf} {m r t:Int} (h:t<0∨t≥c.pc.length):enT u c m r t=false:=by
 unfold enT
 rcases h with h|h
 ·rw[decide_eq_false (by omega)]
 ·have:ZeR u c t.toNat=none:=by
   unfold ZeR
   rw[z'X (show c.pc.length≤t.toNat by omega)]
   cases u.code[t.toNat]?<;>rfl
  rw[this]
  split<;>simp_all
theorem OpS.freeze {P:Program} {o:Oper} {E:Operand→D} {H:Heap} {Φ:D→Heap→Prop} {d':D} (h:OpS P o E H Φ) (hf: ∀d H',Φ d H'→ ∃Hk,H'=Hk++H∧Fz Hk d' d):OpS P o E H (fun d'' H''=>d''=d'∧H''=H):=by
 intro w L0 ε hi hx
 refine(h w L0 ε hi hx).mono fun v w' ⟨d,G',h1,h2,h3,h4⟩=>?_
 obtain⟨Hk,rfl,hz⟩:=hf d G' h1
 have hs:H.Sublist (Hk++H):=List.sublist_append_right _ _
 refine⟨d',H,⟨rfl,rfl⟩,?_,SubH.inv hs h3,SubH.evo hs h4⟩
 refine Rel.fz (H1:=Hk) (L:=live H L0) ⟨h3,fun b c hm=>⟨z'5 _ hm,fun hl=>?_⟩,fun b _ hl=>hl.imp id (SubH.blocks hs b)⟩ d' d v hz h2
 rcases hl with hl|hl
 ·exact h3.apart b (z'o.2 ⟨(b,c),z'5 _ hm,rfl⟩) hl
 ·exact ZjO h3.nodup b (z'o.2 ⟨(b,c),hm,rfl⟩) hl
end Go.Proofs.YtjlnkedmbfdofaaGreat
