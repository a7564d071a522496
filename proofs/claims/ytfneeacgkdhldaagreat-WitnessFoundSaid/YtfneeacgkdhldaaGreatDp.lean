/- Contracts: the program's edges. No condition. -/
import Derived.Test.YtfneeacgkdhldaaGreatDd
import Derived.Test.YtfneeacgkdhldaaGreatYc
import Derived.Test.YtfneeacgkdhldaaGreatYi
import Derived.Test.YtfneeacgkdhldaaGreatDf
import Derived.Test.YtfneeacgkdhldaaGreatRj
import Derived.Test.YtfneeacgkdhldaaGreatK2
namespace Go.Proofs.YtfneeacgkdhldaaGreat
set_option maxHeartbeats 16000000
set_option linter.unusedSimpArgs false
set_option linter.unusedVariables false
set_option maxRecDepth 20000
open Go Go.Proofs Go.Vc
def nxt (L:List Ed) (a:Int):Int:=
 match L with
 |[]=> -1
 |e::L=>match decide (e.2.1=a)with|true=>e.2.2|false=>nxt L a
def ZcI (g:Cs) (x a:Int):Int:=nxt (v'B g x) a
def ZeI (g:Cs):Int→List Int→Int
 |x,[]=>x
 |x,a::p=>match decide (ZcI g x a<0)with|true=> -1|false=>ZeI g (ZcI g x a) p
theorem Zmw {g:Cs} (hg:OkG g) (x:Int):(v'B g x).length≤1000000:=by
 unfold v'B
 cases hd:decide (0≤x)&&decide (x<(z'O g:Int))with
 |false=>exact z'M _
 |true=>
  simp only[z'i,decide_eq_true_eq]at hd
  cases hR:w'j g with
  |false=>simp only[z'O,hR]at hd;omega
  |true=>
  simp only[z'O,hR]at hd
  have gr:=x'G.1 hR
  have b2:=gr.bnd (i:=x.toNat+1) (by omega)
  have:=hg.to
  simp only[ZaQ,ZdI]
  omega
theorem Zoe {g:Cs} {x:Int}: ∀e,e∈v'B g x→(0≤e.2.2∧e.2.2<z'O g)∧0≤e.2.1:=by
 unfold v'B
 cases hd:decide (0≤x)&&decide (x<(z'O g:Int))with
 |false=>intro e he;cases he
 |true=>
  simp only[z'i,decide_eq_true_eq]at hd
  cases hR:w'j g with
  |false=>simp only[z'O,hR]at hd;omega
  |true=>
  simp only[z'O,hR]at hd⊢
  have gr:=x'G.1 hR
  have b1:=gr.bnd (i:=x.toNat) (by omega)
  have b2:=gr.bnd (i:=x.toNat+1) (by omega)
  intro e he
  simp only[ZaQ,Zaz,z'y,List.mem_range'_1]at he
  obtain⟨k,⟨h1,h2⟩,rfl⟩:=he
  have:=gr.to k (by omega)
  exact⟨⟨this.1,this.2.1⟩,this.2.2⟩
abbrev Wy:=Int×Int×Int×List Int
def isN (In:List Bool) (x:Int):Bool:=match decide (0≤x)&&decide (x<In.length)with|true=>In.getD x.toNat false|false=>false
def Zdx (F:List Wy) (x:Int):Bool:=F.any fun e=>decide (e.1=x)
def v'Y (In:List Bool) (x:Int) (p:List Int) (F:List Wy) (e:Ed):List Wy:=match isN In e.2.2&& !Zdx F e.2.2 with|true=>F++[(e.2.2,x,e.2.1,p++[e.2.1])]|false=>F
def Zbr (In:List Bool) (x:Int) (p:List Int) (F:List Wy) (L:List Ed):List Wy:=L.foldl (v'Y In x p) F
def goI (g:Cs) (In:List Bool) (to:Int):Nat→Nat→List Wy→Option (List Int)
 |0,_,_=>none
 |n+1,i,F=>match F[i]? with
  |none=>none
  |some e=>match decide (e.1=to)with|true=>some e.2.2.2|false=>goI g In to n (i+1) (Zbr In e.1 e.2.2.2 F (v'B g e.1))
def okI (g:Cs) (In:List Bool) (x:Int):Bool:=decide (0≤x)&&decide (x<z'O g)&&isN In x
def ZbB (g:Cs) (a b:Int) (In:List Bool):Option (List Int):=match okI g In a&&okI g In b with|true=>goI g In b (z'O g+1) 0 [(a, -1, -1,[])]|false=>none
def ZjU:Option (List Int)→D
 |some p=> .tup [z'C p,bD true]
 |none=> .tup [z'C [],bD false]
structure IW (n:Nat) (F:List Wy):Prop where
 nd:(F.map (·.1)).Nodup
 bd: ∀e,e∈F→0≤e.1∧e.1<n
 up: ∀(j:Nat) (e:Wy),F[j]?=some e→(e.2.1= -1∧e.2.2.2=[])∨ ∃(j':Nat) (e':Wy),j'<j∧F[j']?=some e'∧e'.1=e.2.1∧e.2.2.2=e'.2.2.2++[e.2.2.1]
theorem ZhI {F:List Wy} {x:Int}:Zdx F x=true↔x∈F.map (·.1):=by
 simp only[Zdx,List.any_eq_true,decide_eq_true_eq,z'y]
theorem ZhT: ∀{n:Nat} {l:List Int},l.Nodup→(∀x,x∈l→0≤x∧x<(n:Nat))→l.length≤n
 |0,[],_,_=>z'w _
 |0,x::l,_,h=>by have:=h x (z'D ..);omega
 |n+1,l,hn,h=>by
  have h1:=ZhT (n:=n) (l:=l.filter fun x=>decide (x≠(n:Int))) (hn.filter _) fun x hx=>by
   have hx':=y'x.1 hx
   have:=h x hx'.1
   have h3:=hx'.2
   simp only[decide_eq_true_eq]at h3
   omega
  have h2:l.length≤(l.filter fun x=>decide (x≠(n:Int))).length+1:=by
   clear h1 h
   induction l with
   |nil=>exact z'M _
   |cons y l ih=>
    obtain⟨hy,hl⟩:=x'z.1 hn
    by_cases hyn:y=(n:Int)
    ·have he:(l.filter fun x=>decide (x≠(n:Int)))=l:=v'o.2 fun x hx=>decide_eq_true fun e=>hy (by rw[hyn, ←e];exact hx)
     rw[List.filter_cons_of_neg (by simp[hyn]),he]
     exact z'w _
    ·rw[w'P (by simp[hyn])]
     have:=ih hl
     simp only[z'H]
     omega
  omega
theorem IW.len {n:Nat} {F:List Wy} (h:IW n F):F.length≤n:=by
 rw[←z's (·.1)]
 exact ZhT h.nd fun x hx=>by obtain⟨e,he,rfl⟩:=z'y.1 hx;exact h.bd e he
theorem IW.step {n:Nat} {F:List Wy} (h:IW n F) {In:List Bool} {i:Nat} {e:Wy} (he:F[i]?=some e) {d:Ed} (hd:0≤d.2.2∧d.2.2<n):IW n (v'Y In e.1 e.2.2.2 F d):=by
 unfold v'Y
 split
 ·rename_i hc
  simp only[z'i,z'N]at hc
  have hno:d.2.2∉F.map (·.1):=fun hm=>by rw[ZhI.2 hm]at hc;cases hc.2
  refine⟨?_,?_,?_⟩
  ·rw[z'E,z'B,x'y]
   exact x'a.2 ⟨h.nd,by simp,fun a ha b hb=>by rw[y'E]at hb;subst hb;exact fun q=>hno (by rw[show d.2.2=a from q.symm];exact ha)⟩
  ·intro x hx
   rcases y'g.1 hx with hx|hx
   ·exact h.bd x hx
   ·rw[y'E]at hx;subst hx;exact hd
  ·intro j x hx
   rcases z'g j F.length with hj|hj
   ·rw[z'9 hj]at hx
    rcases h.up j x hx with h1|⟨j',e',h1,h2,h3⟩
    ·exact .inl h1
    ·exact .inr ⟨j',e',h1,by rw[z'9 (by omega)];exact h2,h3⟩
   ·rw[w'4 hj]at hx
    have hi:i<F.length:=by
     rcases z'g i F.length with h|h
     ·exact h
     ·rw[z'z h]at he;cases he
    have hx':x=(d.2.2,e.1,d.2.1,e.2.2.2++[d.2.1]):=by
     cases hjj:j-F.length with
     |zero=>rw[hjj]at hx;simpa using hx.symm
     |succ k=>rw[hjj]at hx;simp at hx
    subst hx'
    exact .inr ⟨i,e,by omega,by rw[z'9 hi];exact he,rfl,rfl⟩
 ·exact h
theorem IW.one {n:Nat} {a:Int} (h:0≤a∧a<n):IW n [(a, -1, -1,[])]:=by
 refine⟨by simp,fun e he=>by rw[y'E]at he;subst he;exact h,fun j e he=>?_⟩
 cases j with
 |zero=>cases he;exact .inl ⟨rfl,rfl⟩
 |succ j=>simp at he
theorem Zem (In:List Bool) (x:Int) (p:List Int) (F:List Wy) (e:Ed): ∃X,v'Y In x p F e=F++X:=by
 unfold v'Y
 split
 ·exact⟨_,rfl⟩
 ·exact⟨[],by simp⟩
theorem Zig (In:List Bool) (x:Int) (p:List Int): ∀(L:List Ed) (F:List Wy), ∃X,Zbr In x p F L=F++X
 |[],F=>⟨[],by simp[Zbr]⟩
 |e::L,F=>by
  obtain⟨X,h1⟩:=Zem In x p F e
  obtain⟨Y,h2⟩:=Zig In x p L (F++X)
  exact⟨X++Y,by rw[Zbr,List.foldl_cons,h1];show Zbr In x p (F++X) L=_;rw[h2,y'u]⟩
theorem ZkM {α:Type} {l:List α} {k:Nat} {d:α} (h:k<l.length):l.drop k=l.getD k d::l.drop (k+1):=by
 rw[y'0 h,z'e,z'b h];rfl
theorem Zlo {In:List Bool} {x:Int} {p:List Int} {F:List Wy} {L:List Ed} {k:Nat} (h:k<L.length):Zbr In x p F (L.drop k)=Zbr In x p (v'Y In x p F (L.getD k (0,0,0))) (L.drop (k+1)):=by
 rw[ZkM (d:=((0,0,0):Ed)) h];rfl
theorem ZkO {g:Cs} {In:List Bool} {b:Int} {n i:Nat} {F:List Wy} {e:Wy} (h:F[i]?=some e):goI g In b (n+1) i F=match decide (e.1=b)with|true=>some e.2.2.2|false=>goI g In b n (i+1) (Zbr In e.1 e.2.2.2 F (v'B g e.1)):=by
 conv=>lhs;unfold goI
 rw[h]
theorem ZnM {g:Cs} {In:List Bool} {b:Int} {n i:Nat} {F:List Wy} (h:F.length≤i):goI g In b n i F=none:=by
 cases n with
 |zero=>rfl
 |succ n=>unfold goI;rw[z'z h]
abbrev b0:ByteArray:=⟨#[]⟩
theorem ZnI {g:Option (Nat×Nat)} {e:TypeId} {s:List Int} {H:Heap} {a:D} (hg:gOk g s.length) (hm: ∀b cap,g=some (b,cap)→(b,HC.cells e (cap*1) (s.map iD))∈H):Fz H (.tup [z'C s,a]) (.tup [.gs g s.length,a]):=
 ⟨_,rfl,z't (w'z hg hm) (FzL.refl _ _)⟩
theorem Zgd {H:Heap} {a:D}:Fz H (.tup [z'C [],a]) (.tup [.gs none 0,a]):=ZnI (e:=0) (s:=[]) rfl (fun _ _ e=>nomatch e)
end Go.Proofs.YtfneeacgkdhldaaGreat
/- Slices of one's own that begin at any place of their block: made, read, cut, appended to. No condition. -/
namespace Go.Vc
set_option maxHeartbeats 16000000
set_option linter.unusedSimpArgs false
set_option linter.unusedVariables false
open Go
theorem ZmJ {P:Program} (T:Tab P) {o:Oper} {E:Operand→D} {H:Heap} {K:D→Heap→Prop} {t:TypeId} {n:Nat} {ps:List (Nat×Operand)} {e:TypeId} {esz eb:Nat} {ea:Bool} {ez:List Value} {l:List D} (dX:Nat→D) (hdr: ∀w L b,Rel w L (dX b) (.slice (some ⟨b,0,none⟩) n n)) (ho:o.op= .buildSlice t n ps.toArray)
  (hkd:kdT (T.get t)= .slice e esz eb ea ez) (hl:ZbJ (fun i=>some (i*esz,esz)) ((List.replicate n (ez.map constD)).flatten) (ps.map fun p=>(p.1,E p.2))=some l) (hone:l.all oneD=true) (hbig:n*esz≤16777216)
  (hk: ∀b,b∉H.blocks→K (dX b) ((b,.cells e (n*esz) l)::H)):Op1 P o E H K:=by
 obtain⟨hu,hkn,hsz,_,_,hze⟩:=w'p T hkd
 obtain⟨d,inf,z,h1,h2,h3,h4,_,h6,h7,_⟩:=x'1 hkn
 rw[hsz]at h4 h7
 rw[hze]at h6 h7
 have hzs:z.cells.size=esz:=by rw[←z'4,h6,h7]
 refine⟨fun d' H'=> ∃b,b∉H.blocks∧d'=dX b∧H'=(b,.cells e (n*esz) l)::H,?_,fun _ _ ⟨b,h0,h1,h2⟩=>h1▸h2▸hk b h0⟩
 intro w L0 ε hi hx
 have hmem: ∀i x,(i,x)∈ps→Rel w (live H L0) (E x) (ε x):=fun i x hm=>hx x (by
  simp only[ho,Op.operands,List.mem_toArray,z'y]
  exact⟨(i,x),hm,rfl⟩)
 have hz0:RelL w (live H L0) ((List.replicate n (ez.map constD)).flatten) ((Array.range (n*esz)).map (z.cells[· % z.cells.size]!)).toList:=by
  rw[←hzs,ZcC,h6]
  exact Zar _ _ _ _
 obtain⟨a',hf,hr,hs⟩:=ZbT (ε:=ε) ps _ _ l hmem hl hz0
 have hs':a'.size=n*esz:=by rw[hs];simp
 have hll:l.length=n*esz:=by rw[←RelL.length _ _ hr,z'4,hs']
 have hrun:(execOp ε o).run P w= .ok (.value (.slice (some ⟨w.heap.size,0,none⟩) n n)) (w.alloc (.cells a' e)):=by
  simp only[execOp,ho,Instr.buildSlice]
  refine(z'q (a:= .slice (some ⟨w.heap.size,0,none⟩) n n) (w':=w.alloc (.cells a' e)) ?_).trans rfl
  rw[z'q (run_underlying hu w)]
  simp only
  rw[z'q (ZaD h2 w),h4]
  rw[if_neg (by omega)]
  have hzv:(zeroValue e).run P w= .ok z w:=by unfold zeroValue;rw[z'q (ZaC h2 w),h3];rfl
  simp only[List.map_toArray]at hf⊢
  by_cases hz0:n*esz=0
  ·rw[if_pos hz0,z'q Za9]
   rw[show(Array.map (fun x=>(#[]:Array Value)[x % (#[]:Array Value).size]!) (Array.range (n*esz)))=Array.map (fun x=>z.cells[x % z.cells.size]!) (Array.range (n*esz)) by simp[hz0],hf]
   rfl
  ·rw[if_neg hz0,z'q hzv,z'q Za9,hf]
   rfl
 rw[hrun]
 have hnew:(w.alloc (.cells a' e)).heap[w.heap.size]?=some (.cells a' e):=heap_alloc_new w _
 have hnb:w.heap.size∉H.blocks:=fun h=>by have:=hi.lt h;omega
 have hevo:Evo w H (w.alloc (.cells a' e)) ((w.heap.size,.cells e (n*esz) l)::H):=Zbd w H (.cells a' e) (.cells e (n*esz) l)
 refine⟨_,_,⟨w.heap.size,hnb,rfl,rfl⟩,?_,?_,hevo⟩
 ·exact hdr _ _ _
 ·refine HInv.new hi hevo.size (fun k hk=>w'A w _ k hk) (z'w _) ⟨hone,_,hnew,hs',?_⟩
  rw[show a'.toList.take l.length=a'.toList by rw[hll, ←hs', ←z'4,z'X]]
  refine RelL.mono (fun k hk1 hn=>⟨w'A w _ k hk1,fun h=>?_⟩) _ _ hr
  rcases h with h|h
  ·exact hn (.inl h)
  ·simp only[Heap.blocks,z'B,z'P]at h
   rcases h with h|h
   ·omega
   ·exact hn (.inr h)
theorem Zh4 {P:Program} (T:Tab P) {o:Oper} {E:Operand→D} {H:Heap} {K:D→Heap→Prop} {t:TypeId} {n:Nat} {ps:List (Nat×Operand)} {e:TypeId} {esz eb:Nat} {ea:Bool} {ez:List Value} {l:List D} (ho:o.op= .buildSlice t n ps.toArray)
  (hkd:kdT (T.get t)= .slice e esz eb ea ez) (hl:ZbJ (fun i=>some (i*esz,esz)) ((List.replicate n (ez.map constD)).flatten) (ps.map fun p=>(p.1,E p.2))=some l) (hone:l.all oneD=true) (hbig:n*esz≤16777216)
  (hk: ∀b,b∉H.blocks→K (.gs (some (b,n)) n) ((b,.cells e (n*esz) l)::H)):Op1 P o E H K:=
 ZmJ T (fun b=> .gs (some (b,n)) n) (fun w L b=>ZlC w L (some (b,n)) n (z'w _)) ho hkd hl hone hbig hk
end Go.Vc
/- Contracts: a way by some nodes, the program. No condition. -/
namespace Go.Proofs.YtfneeacgkdhldaaGreat
set_option maxHeartbeats 16000000
set_option linter.unusedSimpArgs false
set_option linter.unusedVariables false
set_option maxRecDepth 20000
open Go Go.Proofs Go.Vc
attribute [local irreducible] y'5 VCg VCw VCx
theorem Zne {In:List Bool} {x:Int} (h:0≤x∧x<In.length):isN In x=In.getD x.toNat false:=by simp only[isN,decide_eq_true h.1,decide_eq_true h.2,w'1]
theorem ZpY {In:List Bool} {x:Int} (h: ¬(0≤x∧x<In.length)):isN In x=false:=by
 unfold isN
 split
 ·rename_i h1;simp only[z'i,decide_eq_true_eq]at h1;exact absurd h1 h
 ·rfl
theorem Zgn (In:List Bool) (x:Int):Pure Tryz.prog 83 [x'F In,iD x] (bD (isN In x)):=by
 refine Fun.of T [.tmp 4] Tryz.func83 rfl Tryz.ntmps83 Tryz.results83 rfl (by kernel_rfl) ?_
 by_cases h:0≤x∧x<In.length
 ·rw[Zne h]
  repeat' first|refine vs T rfl fun K hK=>?_;(try simp (disch:=omega) only[go_sem,Nat.reduceBEq,v'v,w'5]);(first|refine hK _ _ ?_;clear hK K|refine⟨?_,hK _ _ ?_⟩<;>clear hK K;focus(try omega))|refine st rfl ?_|refine nl ?_|refine gs rfl rfl ?_|with_reducible refine z'j (fun hc=>?_) (fun hc=>?_)<;>(try simp only[decide_eq_true_eq,decide_eq_false_iff_not,ge_iff_le,y'e,z'm]at hc)<;>(try(exfalso;omega))
  all_goals exact z'n T (z'a _) ⟨rfl,rfl⟩
 ·rw[ZpY h]
  repeat' first|refine vs T rfl fun K hK=>?_;(try simp (disch:=omega) only[go_sem,Nat.reduceBEq,w'5]);(refine hK _ _ ?_;clear hK K)|refine st rfl ?_|refine nl ?_|refine gs rfl rfl ?_|with_reducible refine z'j (fun hc=>?_) (fun hc=>?_)<;>(try simp only[decide_eq_true_eq,decide_eq_false_iff_not,ge_iff_le,y'e,z'm]at hc)<;>(try(exfalso;omega))
  all_goals exact z'n T (z'a _) ⟨rfl,rfl⟩
end Go.Proofs.YtfneeacgkdhldaaGreat
