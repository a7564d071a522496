/- What a thread changes: a configuration of one's own. No condition. -/
import Derived.Test.YtjlnkedmbfdofaaGreatYh
import Derived.Test.YtjlnkedmbfdofaaGreatK2
import Derived.Test.YtjlnkedmbfdofaaGreatXe
import Derived.Test.YtjlnkedmbfdofaaGreatYo
namespace Go.Proofs.YtjlnkedmbfdofaaGreat
set_option linter.unusedSimpArgs false
set_option linter.unusedVariables false
set_option maxRecDepth 20000
open Go Go.Proofs Go.Vc
attribute [local irreducible] z'Z VCg VCw VCx
abbrev pD (bd:Nat):D:= .is (.pointer (some ⟨bd,0,none⟩))
mutual
theorem Fz.sub {H H':Heap} (h: ∀y,y∈H→y∈H'): ∀{d' d:D},Fz H d' d→Fz H' d' d
 | .sl full esz rows,d,hd=>by
  rcases hd with h0|⟨h1,h2⟩
  ·exact .inl h0
  ·refine .inr ⟨h1,?_⟩
   rcases h2 with h2|h2|⟨b,o,n,cap,q1,q2,e,k,l,q3,q4⟩
   ·exact .inl h2
   ·exact .inr (.inl h2)
   ·exact .inr (.inr ⟨b,o,n,cap,q1,q2,e,k,l,h _ q3,FzR.sub h q4⟩)
 | .pt row,d,hd=>by
  rcases hd with h0|⟨b,o,e,k,l,q1,q2,q3⟩
  ·exact .inl h0
  ·exact .inr ⟨b,o,e,k,l,q1,h _ q2,FzC.sub h q3⟩
 | .agg l',d,hd=>by obtain⟨l,rfl,q⟩:=hd;exact⟨l,rfl,FzL.sub h q⟩
 | .tup l',d,hd=>by obtain⟨l,rfl,q⟩:=hd;exact⟨l,rfl,FzL.sub h q⟩
 | .ifc t x',d,hd=>by obtain⟨x,rfl,q⟩:=hd;exact⟨x,rfl,Fz.sub h q⟩
 | .is v,d,hd=>hd
 | .gs g n,d,hd=>hd
 | .os b o n cap,d,hd=>hd
 | .any,d,hd=>hd
theorem FzL.sub {H H':Heap} (h: ∀y,y∈H→y∈H'): ∀{l' l:List D},FzL H l' l→FzL H' l' l
 |[],l,q=>q
 |d'::ds',l,q=>by obtain⟨d,ds,rfl,q1,q2⟩:=q;exact⟨d,ds,rfl,Fz.sub h q1,FzL.sub h q2⟩
theorem FzC.sub {H H':Heap} (h: ∀y,y∈H→y∈H'): ∀{l' l:List D},FzC H l' l→FzC H' l' l
 |[],l,q=>trivial
 |d'::ds',l,q=>by obtain⟨d,ds,rfl,q1,q2⟩:=q;exact⟨d,ds,rfl,Fz.sub h q1,FzC.sub h q2⟩
theorem FzR.sub {H H':Heap} {esz:Nat} (h: ∀y,y∈H→y∈H'): ∀{rows:List (List D)} {l:List D},FzR H esz rows l→FzR H' esz rows l
 |[],l,q=>trivial
 |r::rs,l,q=>⟨q.1,FzC.sub h q.2.1,FzR.sub h q.2.2⟩
end
def setP (c:Cf) (i:Nat) (n:Int):Cf:={c with pc:=c.pc.set i n}
def ZaH (c:Cf) (k:Nat) (n:Int):Cf:={c with mem:=c.mem.set k n}
def ZcI (c:Cf) (i:Nat) (b:List En):Cf:={c with bufs:=c.bufs.set i b}
def ZiX (c:Cf) (i:Nat) (row:List Int):Cf:={c with regs:=c.regs.set i row}
def Zb5 (c:Cf) (x:Ins):Int:=c.mem.getD x.loc.toNat 0
structure Fit (u:Un) (c:Cf) (i:Nat) (x:Ins) (row:List Int) (b:List En):Prop where
 okc:OkC c
 pc:i<c.pc.length
 reg:c.regs[i]?=some row
 buf:c.bufs[i]?=some b
 e:x.e.length≤1000
 f:x.f.length≤1000
 r:(x.op=2∨x.op=3∨x.op=5∨x.op=6∨x.op=7)→0≤x.reg∧x.reg<row.length
 l:(x.op=4∨x.op=5∨x.op=6∨x.op=7)→0≤x.loc∧x.loc<c.mem.length
 m: ∀n,n∈c.mem→ -1000000≤n∧n≤1000000
 v: -1000000≤w'A u row x.e∧w'A u row x.e≤1000000
 md:u.md≠0
def Za1 (c:Cf) (i:Nat) (row:List Int) (x:Ins) (n:Int):Cf:=ZiX c i (row.set x.reg.toNat n)
def Zbd (u:Un) (c:Cf) (m:Int) (i:Nat) (x:Ins) (row:List Int) (b:List En):Cf:=
 if x.op=20 then setP c i x.to else if x.op=21 then(if w'A u row x.e=0 then setP c i x.to else c)else if x.op=2 then Za1 c i row x (w'A u row x.e)else if x.op=3 then Za1 c i row x (ZaZ c (i:Nat) x.loc)
 else if x.op=4 then(if m=1 then ZaH c x.loc.toNat (w'A u row x.e)else ZcI c i (Zaf m (x.loc,w'A u row x.e) b))
 else if x.op=5 then(if Zb5 c x=w'A u row x.e then ZaH (Za1 c i row x (Zb5 c x)) x.loc.toNat (w'A u row x.f)else Za1 c i row x (Zb5 c x))
 else if x.op=6 then ZaH (Za1 c i row x (Zb5 c x)) x.loc.toNat ((Zb5 c x+w'A u row x.e).tmod u.md)
 else if x.op=7 then ZaH (Za1 c i row x (Zb5 c x)) x.loc.toNat (w'A u row x.e)
 else c
section
variable (bd : Nat) (u : Un) (q : OC) (c : Cf) (hq : q.ok c) (m r : Int) (i : Nat) (x : Ins) (row : List Int) (b : List En) (h : Fit u c i x row b)
include hq h
end
theorem VCd.weak {P:Program} {n j:Nat} {ops:Array Oper} {s s':St} {Q:Exit→St→Prop} (h:Weak s s') (hv:VCd P n ops j s' Q):VCd P n ops j s Q:=fun x a w listed hn hs=>hv x a w listed hn (h x a w hs)
theorem VCd.nodup {P:Program} {n j:Nat} {ops:Array Oper} {s:St} {Q:Exit→St→Prop} (h:s.heap.blocks.Nodup→VCd P n ops j s Q):VCd P n ops j s Q:=fun x a w listed hn hs=>h hs.inv.nodup x a w listed hn hs
theorem VCo.nodup {P:Program} {n:Nat} {ops:Array Oper} {l:List Oper} {s:St} {Q:Exit→St→Prop} (h:s.heap.blocks.Nodup→VCo P n ops l s Q):VCo P n ops l s Q:=fun x a w hn hs=>h hs.inv.nodup x a w hn hs
def Zcg (c:Cf) (m t loc:Int):Cf:=match ZdQ c m t loc with
 |true=>ZaH (ZcI c t.toNat (ZaC m loc (c.bufs.getD t.toNat [])).1) (ZaC m loc (c.bufs.getD t.toNat [])).2.1.1.toNat (ZaC m loc (c.bufs.getD t.toNat [])).2.1.2
 |false=>c
def Zmv (c:Cf):Prop:= ∀b,b∈c.bufs→ ∀e,e∈b→0≤e.1∧e.1<c.mem.length
theorem Zmf {m loc:Int} {b:List En} (h:(ZaC m loc b).2.2=true):(ZaC m loc b).2.1∈b:=by
 unfold ZaC at h⊢
 cases hn:v'N m loc b with
 |none=>rw[hn]at h;cases h
 |some k=>
  have hk:=ZkK hn
  simp only
  rw[z'l hk]
  exact List.getElem_mem hk
mutual
def Wk:D→D→Prop
 | .sl full esz rows',d=>d= .sl full esz rows'∨(full=false∧((∃f rows,d= .sl f esz rows∧WkR rows' rows)∨(rows'=[]∧d= .gs none 0)))
 | .pt row',d=> ∃row,d= .pt row∧WkL row' row
 | .agg l',d=> ∃l,d= .agg l∧WkL l' l
 | .tup l',d=> ∃l,d= .tup l∧WkL l' l
 | .ifc t x',d=> ∃x,d= .ifc t x∧Wk x' x
 | .is v,d=>d= .is v
 | .gs g n,d=>d= .gs g n
 | .os b o n cap,d=>d= .os b o n cap
 | .any,d=>d= .any
termination_by structural d=>d
def WkL:List D→List D→Prop
 |[],l=>l=[]
 |d'::ds',l=> ∃d ds,l=d::ds∧Wk d' d∧WkL ds' ds
def WkR:List (List D)→List (List D)→Prop
 |[],l=>l=[]
 |r'::rs',l=> ∃r rs,l=r::rs∧WkL r' r∧WkR rs' rs
end
theorem Wk.one {d' d:D} (h:Wk d' d) (h1:oneD d=true):oneD d'=true:=by
 cases d' with
 |sl=>rfl
 |pt=>rfl
 |agg l'=>obtain⟨l,rfl,_⟩:=h;cases h1
 |tup l'=>obtain⟨l,rfl,_⟩:=h;cases h1
 |ifc t x'=>rfl
 |is v=>obtain rfl:d= .is v:=h;exact h1
 |gs g n=>rfl
 |os=>rfl
 |any=>obtain rfl:d= .any:=h;exact h1
theorem WkL.one: ∀{ds' ds:List D},WkL ds' ds→ds.all oneD=true→ds'.all oneD=true
 |[],_,_,_=>rfl
 |d'::ds',l,h,h1=>by
  obtain⟨d,ds,rfl,h2,h3⟩:=h
  rw[y'b,z'b]at h1
  rw[y'b,h2.one h1.1,h3.one h1.2];rfl
theorem WkL.len: ∀{ds' ds:List D},WkL ds' ds→ds'.length=ds.length
 |[],_,h=>by cases h;rfl
 |d'::ds',l,h=>by
  obtain⟨d,ds,rfl,h2,h3⟩:=h
  simp[h3.len]
theorem WkR.len: ∀{ds' ds:List (List D)},WkR ds' ds→ds'.length=ds.length
 |[],_,h=>by cases h;rfl
 |d'::ds',l,h=>by
  obtain⟨d,ds,rfl,h2,h3⟩:=h
  simp[h3.len]
mutual
theorem Rel.wk {w:World} {L:Nat→Prop}: ∀(d' d:D) (v:Value),Wk d' d→Rel w L d v→Rel w L d' v
 | .sl full esz rows',d,v,h,r=>by
  rcases h with rfl|⟨rfl,⟨f,rows,rfl,hr⟩|⟨rfl,rfl⟩⟩
  ·exact r
  ·obtain⟨a,cap,h1,h2,h3,h4⟩:=r
   refine⟨a,cap,by rw[hr.len];exact h1,by rw[hr.len];exact h2,fun h=>(by cases h),?_⟩
   rcases h4 with h4|⟨b,o,h5,h6⟩
   ·subst h4
    cases rows' with
    |nil=>exact .inl rfl
    |cons r rs=>obtain⟨_,_,e,_⟩:=hr;cases e
   ·exact .inr ⟨b,o,h5,RowsAt.wk esz rows' rows b o hr h6⟩
  ·obtain⟨rfl,_⟩:=r
   exact⟨none,0,rfl,⟨z'c _,fun _=>rfl⟩,fun h=>(by cases h),.inl rfl⟩
 | .pt row',d,v,h,r=>by
  obtain⟨row,rfl,hr⟩:=h
  obtain⟨b,o,h1,h2⟩:=r
  exact⟨b,o,h1,CellsAt.wk row' row b o hr h2⟩
 | .agg l',d,v,h,r=>by
  obtain⟨l,rfl,h⟩:=h
  obtain⟨h1,cs,rfl,hr⟩:=r
  exact⟨WkL.one h h1,cs,rfl,RelL.wk l' l _ h hr⟩
 | .tup l',d,v,h,r=>by
  obtain⟨l,rfl,h⟩:=h
  obtain⟨cs,rfl,hr⟩:=r
  exact⟨cs,rfl,RelL.wk l' l _ h hr⟩
 | .ifc t x',d,v,h,r=>by
  obtain⟨x,rfl,h⟩:=h
  obtain⟨y,rfl,hr⟩:=r
  exact⟨y,rfl,Rel.wk x' x y h hr⟩
 | .is u,d,v,h,r=>by obtain rfl:d= .is u:=h;exact r
 | .gs g n,d,v,h,r=>by obtain rfl:d= .gs g n:=h;exact r
 | .os b o n cap,d,v,h,r=>by obtain rfl:d= .os b o n cap:=h;exact r
 | .any,d,v,h,r=>trivial
theorem RelL.wk {w:World} {L:Nat→Prop}: ∀(l' l:List D) (vs:List Value),WkL l' l→RelL w L l vs→RelL w L l' vs
 |[],l,vs,h,r=>by obtain rfl:l=[]:=h;exact r
 |d'::ds',l,vs,h,r=>by
  obtain⟨d,ds,rfl,h1,h2⟩:=h
  obtain⟨v,rest,rfl,r1,r2⟩:=r
  exact⟨v,rest,rfl,Rel.wk d' d v h1 r1,RelL.wk ds' ds rest h2 r2⟩
theorem CellsAt.wk {w:World} {L:Nat→Prop}: ∀(l' l:List D) (b o:Nat),WkL l' l→CellsAt w L l b o→CellsAt w L l' b o
 |[],_,_,_,_,_=>trivial
 |d'::ds',l,b,o,h,r=>by
  obtain⟨d,ds,rfl,h1,h2⟩:=h
  obtain⟨q1,⟨q2,v,q3,q4⟩,q5⟩:=r
  exact⟨q1,⟨h1.one q2,v,q3,Rel.wk d' d v h1 q4⟩,CellsAt.wk ds' ds b (o+1) h2 q5⟩
theorem RowsAt.wk {w:World} {L:Nat→Prop} (esz:Nat): ∀(l' l:List (List D)) (b o:Nat),WkR l' l→RowsAt w L esz l b o→RowsAt w L esz l' b o
 |[],_,_,_,_,_=>trivial
 |r'::rs',l,b,o,h,r=>by
  obtain⟨r0,rs,rfl,h1,h2⟩:=h
  obtain⟨q1,q2,q3⟩:=r
  exact⟨by rw[h1.len];exact q1,CellsAt.wk r' r0 b o h1 q2,RowsAt.wk esz rs' rs b (o+esz) h2 q3⟩
end
theorem Pure.wk {P:Program} {f:FuncId} {args:List D} {d' d:D} (h:Pure P f args d) (hw:Wk d' d):Pure P f args d':=
 ⟨h.1,fun w L0 vs hi hr=>(h.2 w L0 vs hi hr).mono fun e w' ⟨v,he,d0,H',⟨h1,h2⟩,h3,h4,h5⟩=>⟨v,he,d',[],⟨rfl,rfl⟩,by subst h1;subst h2;exact Rel.wk _ _ _ hw h3,by subst h2;exact h4,by subst h2;exact h5⟩⟩
def Zmx (u:Un) (c:Cf) (m:Int) (i:Nat) (x:Ins) (row:List Int) (b:List En) (p:Nat) (en:Bool):Cf:=match en with
 |true=>Zbd u (setP c i ((p+1:Nat):Int)) m i x row b
 |false=>c
end Go.Proofs.YtjlnkedmbfdofaaGreat
