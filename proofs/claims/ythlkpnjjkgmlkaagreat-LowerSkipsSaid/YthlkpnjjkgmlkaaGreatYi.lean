/- What an instruction has. No condition. -/
import Derived.Test.YthlkpnjjkgmlkaaGreatXe
import Derived.Test.YthlkpnjjkgmlkaaGreatYd
import Derived.Test.YthlkpnjjkgmlkaaGreatYb
import Derived.Test.YthlkpnjjkgmlkaaGreatXa
import Derived.Test.YthlkpnjjkgmlkaaGreatK2
namespace Go.Proofs.YthlkpnjjkgmlkaaGreat
set_option linter.unusedSimpArgs false
set_option linter.unusedVariables false
set_option maxRecDepth 20000
open Go Go.Proofs Go.Vc
structure Nd where
 r:Bool
 l:Bool
 e:Bool
 f:Bool
 n:Bool
 t:Bool
def ndF (op:Int):Option Nd:=
 if op=2 then some ⟨true,false,true,false,false,false⟩else
 if op=3 then some ⟨true,true,false,false,false,false⟩else
 if op=4 then some ⟨false,true,true,false,false,false⟩else
 if op=5 then some ⟨true,true,true,true,false,false⟩else
 if op=6 then some ⟨true,true,true,false,false,false⟩else
 if op=7 then some ⟨true,true,true,false,false,false⟩else
 if op=8 then some ⟨false,false,false,false,false,false⟩else
 if op=9 then some ⟨false,true,true,false,true,false⟩else
 if op=20 then some ⟨false,false,false,false,false,true⟩else
 if op=21 then some ⟨false,false,true,false,false,true⟩else
 none
def x'a (has:Bool) (n m:Int):Bool:=match has with|true=>inB n m|false=>n == 0
def Zas (has:Bool) (l:List Opc) (regs:Int):Bool:=match has with|true=>v'j l [] regs 0|false=>decide (l.length=0)
def w'w (x:Ins) (regs locs many:Int):Bool:=match ndF x.op with
 |none=>false
 |some d=>x'a d.r x.reg regs&&x'a d.l x.loc locs&&x'a d.t x.to many&&Zas d.e x.e regs&&Zas d.f x.f regs&&(d.n|| !x.ne)
attribute [local irreducible] x'r VCg VCw VCx
theorem ZiK {H X:Heap} (h:(H++X).blocks.Nodup): ∀b,b∈H.blocks→b∉X.blocks:=by
 simp only[Heap.blocks,z'A]at h
 obtain⟨_,_,h3⟩:=y'S.1 h
 exact fun b hp hr=>h3 b hp b hr rfl
theorem Weak.fzs {env:Nat→D} {H X:Heap} {g:G} {e:TypeId} {esz:Nat} {rows:List (List D)} {t:Nat} (hp:H.Perm (shp g e esz rows.flatten X)) (hn:env t= .gs g rows.length) (hr: ∀r,r∈rows→r.length=esz):
  Weak ⟨env,H⟩ ⟨upd env t (.sl false esz rows),X⟩:=fun x a w h=>by
 have h2:=Weak.perm hp x a w h
 have hg:gOk g rows.length:=by
  have:=h.env t
  simp only at this
  rw[hn]at this
  exact this.2
 have hnd:=h2.inv.nodup
 have hsplit:shp g e esz rows.flatten X=shp g e esz rows.flatten []++X:=by rw[Zmd];rfl
 refine Weak.fz (H1:=shp g e esz rows.flatten []) ?_ ?_ ?_ x a w h2
 ·rw[hn]
  exact ZgP (e:=e) rfl hg (fun b cap hb=>by rw[hb];exact ZaH) (FzR.refl _ _ hr)
 ·intro b c hm
  have hm':(b,c)∈shp g e esz rows.flatten X:=by rw[hsplit];exact y'H _ hm
  refine⟨hm',?_⟩
  simp only at hnd
  rw[hsplit]at hnd
  exact ZiK hnd b (z'w.2 ⟨_,hm,rfl⟩)
 ·show X.Sublist (shp g e esz rows.flatten X)
  rw[hsplit]
  exact List.sublist_append_right _ _
theorem FzL.length {H:Heap}: ∀{l' l:List D},FzL H l' l→l'.length=l.length
 |[],_,h=>by cases h;rfl
 |_::_,_,h=>by
  obtain⟨d,ds,rfl,_,h2⟩:=h
  rw[z'q,z'q,FzL.length h2]
theorem FzL.append {H:Heap}: ∀{l' l m' m:List D},FzL H l' l→FzL H m' m→FzL H (l'++m') (l++m)
 |[],_,_,_,h,h2=>by cases h;exact h2
 |_::_,_,_,_,h,h2=>by
  obtain⟨d,ds,rfl,q1,q2⟩:=h
  exact⟨d,ds++_,rfl,q1,FzL.append q2 h2⟩
def v'8 (u:Un) (row:List Int) (l:List Opc):Int:=Zno l u.md row [] []
def enB (c:Cf) (m r:Int) (t:Int) (x:Ins) (b:List En) (e:Int):Bool:=
 if x.op=22 then false else if x.op=4 then(m == 1)||ZfQ m r x.loc b else if x.op=8∨x.op=5∨x.op=6∨x.op=7 then(b.length:Int) == 0 else if x.op=9 then((Zdj c t x.loc == e) != x.ne)else true
structure AtX (u:Un) (c:Cf) (i:Nat) (x:Ins):Prop where
 pc: ∃rw p,c.pc[i]?=some p∧u.code[i]?=some rw∧0≤p∧rw[p.toNat]?=some x
def Zh8 (u:Un) (c:Cf) (i:Nat):Option Ins:=(u.code[i]?).bind fun rw=>(c.pc[i]?).bind fun p=>if 0≤p then rw[p.toNat]? else none
theorem AtX.ins {u:Un} {c:Cf} {i:Nat} {x:Ins} (h:AtX u c i x):Zh8 u c i=some x:=by
 obtain⟨rw,p,h1,h2,h3,h4⟩:=h.pc
 simp[Zh8,h1,h2,h3,h4]
def enT (u:Un) (c:Cf) (m r t:Int):Bool:=match decide (0≤t),Zh8 u c t.toNat with
 |true,some x=>enB c m r t x (c.bufs.getD t.toNat []) (v'8 u (c.regs.getD t.toNat []) x.e)
 |_,_=>false
structure Thr (u:Un) (c:Cf) (i:Nat) (x:Ins) (row:List Int) (b:List En):Prop where
 at_:AtX u c i x
 reg:c.regs[i]?=some row
 buf:c.bufs[i]?=some b
 e:x.e.length≤1000
 f:x.f.length≤1000
theorem Zso {u:Un} {c:Cf} {m r:Int} {i:Nat} {x:Ins} {row:List Int} {b:List En} (h:Thr u c i x row b):enT u c m r (i:Nat)=enB c m r (i:Nat) x b (v'8 u row x.e):=by
 simp[enT,h.at_.ins,h.reg,h.buf,z'f]
theorem Zsp {u:Un} {c:Cf} {m r t:Int} (h:t<0∨t≥c.pc.length):enT u c m r t=false:=by
 unfold enT
 rcases h with h|h
 ·rw[decide_eq_false (by omega)]
 ·have:Zh8 u c t.toNat=none:=by
   unfold Zh8
   rw[x'd (show c.pc.length≤t.toNat by omega)]
   cases u.code[t.toNat]?<;>rfl
  rw[this]
  split<;>simp_all
abbrev pD (bd:Nat):D:= .is (.pointer (some ⟨bd,0,none⟩))
mutual
theorem Fz.sub {H H':Heap} (h: ∀y,y∈H→y∈H'): ∀{d' d:D},Fz H d' d→Fz H' d' d
 | .sl full esz rows,d,hd=>by
  rcases hd with h0|⟨h1,h2⟩
  ·exact .inl h0
  ·refine .inr ⟨h1,?_⟩
   rcases h2 with h2|h2|⟨b,o,n,cap,q1,q2,e,k,l,q3,q4⟩
   ·exact .inl h2
   ·exact .inr (.inl h2)
   ·exact .inr (.inr ⟨b,o,n,cap,q1,q2,e,k,l,h _ q3,FzR.sub h q4⟩)
 | .pt row,d,hd=>by
  rcases hd with h0|⟨b,o,e,k,l,q1,q2,q3⟩
  ·exact .inl h0
  ·exact .inr ⟨b,o,e,k,l,q1,h _ q2,FzC.sub h q3⟩
 | .agg l',d,hd=>by obtain⟨l,rfl,q⟩:=hd;exact⟨l,rfl,FzL.sub h q⟩
 | .tup l',d,hd=>by obtain⟨l,rfl,q⟩:=hd;exact⟨l,rfl,FzL.sub h q⟩
 | .ifc t x',d,hd=>by obtain⟨x,rfl,q⟩:=hd;exact⟨x,rfl,Fz.sub h q⟩
 | .is v,d,hd=>hd
 | .gs g n,d,hd=>hd
 | .os b o n cap,d,hd=>hd
 | .any,d,hd=>hd
theorem FzL.sub {H H':Heap} (h: ∀y,y∈H→y∈H'): ∀{l' l:List D},FzL H l' l→FzL H' l' l
 |[],l,q=>q
 |d'::ds',l,q=>by obtain⟨d,ds,rfl,q1,q2⟩:=q;exact⟨d,ds,rfl,Fz.sub h q1,FzL.sub h q2⟩
theorem FzC.sub {H H':Heap} (h: ∀y,y∈H→y∈H'): ∀{l' l:List D},FzC H l' l→FzC H' l' l
 |[],l,q=>trivial
 |d'::ds',l,q=>by obtain⟨d,ds,rfl,q1,q2⟩:=q;exact⟨d,ds,rfl,Fz.sub h q1,FzC.sub h q2⟩
theorem FzR.sub {H H':Heap} {esz:Nat} (h: ∀y,y∈H→y∈H'): ∀{rows:List (List D)} {l:List D},FzR H esz rows l→FzR H' esz rows l
 |[],l,q=>trivial
 |r::rs,l,q=>⟨q.1,FzC.sub h q.2.1,FzR.sub h q.2.2⟩
end
def setP (c:Cf) (i:Nat) (n:Int):Cf:={c with pc:=c.pc.set i n}
def ZcV (c:Cf) (k:Nat) (n:Int):Cf:={c with mem:=c.mem.set k n}
def Zfo (c:Cf) (i:Nat) (b:List En):Cf:={c with bufs:=c.bufs.set i b}
def Zii (c:Cf) (i:Nat) (row:List Int):Cf:={c with regs:=c.regs.set i row}
structure OkU (u:Un):Prop where
 ini:u.init.length≤1000
 reg:u.regs.length≤1000
 cod:u.code.length≤1000
 row: ∀r,r∈u.code→r.length≤100000
 ins: ∀r,r∈u.code→ ∀x,x∈r→x.e.length≤1000∧x.f.length≤1000
instance:Inhabited Ins:=⟨⟨0,0,0,[],[],false,0⟩⟩
def ZcO (regs locs:Int) (r:List Ins):Bool:=
 (decide (0≤regs)&&decide (regs≤6)&&decide (1≤r.length)&&decide (r.length≤1000)&&Zd7 (r.getD (r.length-1) default))&&((List.range (r.length-1)).all fun i=>w'w (r.getD i default) regs locs r.length)
def Zau (u:Un):Bool:=decide (2≤u.md)&&decide (u.md≤16)&&x'A u.init u.md&&decide (u.init.length≤6)&&decide (1≤u.regs.length)&&decide (u.regs.length≤4)&&decide (u.code.length=u.regs.length)
def x'Q (u:Un):Bool:=Zau u&&((List.range u.regs.length).all fun t=>ZcO (u.regs.getD t 0) u.init.length (u.code.getD t []))
theorem Zfl {n:Nat} {p:Nat→Bool} (h: ∀i,i<n→p i=true):(List.range n).all p=true:=by
 rw[z'l]
 intro x hx
 exact h x (z'Q.1 hx)
theorem ZiP {n i:Nat} {p:Nat→Bool} (hi:i<n) (h:p i=false):(List.range n).all p=false:=by
 rw[w'A]
 exact⟨i,z'Q.2 hi,by simp[h]⟩
def ZeD (c:Cf) (x:Ins):Int:=c.mem.getD x.loc.toNat 0
structure Fit (u:Un) (c:Cf) (i:Nat) (x:Ins) (row:List Int) (b:List En):Prop where
 okc:OkC c
 pc:i<c.pc.length
 reg:c.regs[i]?=some row
 buf:c.bufs[i]?=some b
 e:x.e.length≤1000
 f:x.f.length≤1000
 r:(x.op=2∨x.op=3∨x.op=5∨x.op=6∨x.op=7)→0≤x.reg∧x.reg<row.length
 l:(x.op=4∨x.op=5∨x.op=6∨x.op=7)→0≤x.loc∧x.loc<c.mem.length
 m: ∀n,n∈c.mem→ -1000000≤n∧n≤1000000
 v: -1000000≤v'8 u row x.e∧v'8 u row x.e≤1000000
 md:u.md≠0
def Zdm (c:Cf) (i:Nat) (row:List Int) (x:Ins) (n:Int):Cf:=Zii c i (row.set x.reg.toNat n)
def ZdE (u:Un) (c:Cf) (m:Int) (i:Nat) (x:Ins) (row:List Int) (b:List En):Cf:=
 if x.op=20 then setP c i x.to else if x.op=21 then(if v'8 u row x.e=0 then setP c i x.to else c)else if x.op=2 then Zdm c i row x (v'8 u row x.e)else if x.op=3 then Zdm c i row x (Zdj c (i:Nat) x.loc)
 else if x.op=4 then(if m=1 then ZcV c x.loc.toNat (v'8 u row x.e)else Zfo c i (Zco m (x.loc,v'8 u row x.e) b))
 else if x.op=5 then(if ZeD c x=v'8 u row x.e then ZcV (Zdm c i row x (ZeD c x)) x.loc.toNat (v'8 u row x.f)else Zdm c i row x (ZeD c x))
 else if x.op=6 then ZcV (Zdm c i row x (ZeD c x)) x.loc.toNat ((ZeD c x+v'8 u row x.e).tmod u.md)
 else if x.op=7 then ZcV (Zdm c i row x (ZeD c x)) x.loc.toNat (v'8 u row x.e)
 else c
section
variable (bd : Nat) (u : Un) (q : OC) (c : Cf) (hq : q.ok c) (m r : Int) (i : Nat) (x : Ins) (row : List Int) (b : List En) (h : Fit u c i x row b)
include hq h
end
theorem VCd.weak {P:Program} {n j:Nat} {ops:Array Oper} {s s':St} {Q:Exit→St→Prop} (h:Weak s s') (hv:VCd P n ops j s' Q):VCd P n ops j s Q:=fun x a w listed hn hs=>hv x a w listed hn (h x a w hs)
theorem VCd.nodup {P:Program} {n j:Nat} {ops:Array Oper} {s:St} {Q:Exit→St→Prop} (h:s.heap.blocks.Nodup→VCd P n ops j s Q):VCd P n ops j s Q:=fun x a w listed hn hs=>h hs.inv.nodup x a w listed hn hs
theorem VCo.nodup {P:Program} {n:Nat} {ops:Array Oper} {l:List Oper} {s:St} {Q:Exit→St→Prop} (h:s.heap.blocks.Nodup→VCo P n ops l s Q):VCo P n ops l s Q:=fun x a w hn hs=>h hs.inv.nodup x a w hn hs
def ZeQ (c:Cf) (m t loc:Int):Cf:=match ZgW c m t loc with
 |true=>ZcV (Zfo c t.toNat (ZcM m loc (c.bufs.getD t.toNat [])).1) (ZcM m loc (c.bufs.getD t.toNat [])).2.1.1.toNat (ZcM m loc (c.bufs.getD t.toNat [])).2.1.2
 |false=>c
def Zsa (c:Cf):Prop:= ∀b,b∈c.bufs→ ∀e,e∈b→0≤e.1∧e.1<c.mem.length
theorem ZrK {m loc:Int} {b:List En} (h:(ZcM m loc b).2.2=true):(ZcM m loc b).2.1∈b:=by
 unfold ZcM at h⊢
 cases hn:ZbU m loc b with
 |none=>rw[hn]at h;cases h
 |some k=>
  have hk:=ZpQ hn
  simp only
  rw[z'k hk]
  exact List.getElem_mem hk
theorem OpS.freeze {P:Program} {o:Oper} {E:Operand→D} {H:Heap} {Φ:D→Heap→Prop} {d':D} (h:OpS P o E H Φ) (hf: ∀d H',Φ d H'→ ∃Hk,H'=Hk++H∧Fz Hk d' d):OpS P o E H (fun d'' H''=>d''=d'∧H''=H):=by
 intro w L0 ε hi hx
 refine(h w L0 ε hi hx).mono fun v w' ⟨d,G',h1,h2,h3,h4⟩=>?_
 obtain⟨Hk,rfl,hz⟩:=hf d G' h1
 have hs:H.Sublist (Hk++H):=List.sublist_append_right _ _
 refine⟨d',H,⟨rfl,rfl⟩,?_,SubH.inv hs h3,SubH.evo hs h4⟩
 refine Rel.fz (H1:=Hk) (L:=live H L0) ⟨h3,fun b c hm=>⟨y'H _ hm,fun hl=>?_⟩,fun b _ hl=>hl.imp id (SubH.blocks hs b)⟩ d' d v hz h2
 rcases hl with hl|hl
 ·exact h3.apart b (z'w.2 ⟨(b,c),y'H _ hm,rfl⟩) hl
 ·exact ZiK h3.nodup b (z'w.2 ⟨(b,c),hm,rfl⟩) hl
end Go.Proofs.YthlkpnjjkgmlkaaGreat
