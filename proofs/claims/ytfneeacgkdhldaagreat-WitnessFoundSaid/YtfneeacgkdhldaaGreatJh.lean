/- Contracts: the least of a part, its nodes, and to where an agent asks to go. No condition. -/
import Derived.Test.YtfneeacgkdhldaaGreatJf
import Derived.Test.YtfneeacgkdhldaaGreatJa
import Derived.Test.YtfneeacgkdhldaaGreatDt
namespace Go.Proofs.YtfneeacgkdhldaaGreat
set_option maxHeartbeats 16000000
set_option linter.unusedSimpArgs false
set_option linter.unusedVariables false
set_option maxRecDepth 20000
open Go Go.Proofs Go.Vc
attribute [local irreducible] y'5 VCg VCw VCx
theorem Zqa {P:Program} {o:Oper} {E:Operand→D} {H:Heap} {K:D→Heap→Prop} {x y:Operand} {ts:Array TypeId} {k:IntKind} {a b:Int} (ho:o.op= .call ⟨.builtin .min, #[x,y],ts⟩) (ha:E x= .is (.int k a)) (hb:E y= .is (.int k b)) (hk:K (.is (.int k (min a b))) H):Op1 P o E H K:=by
 refine Op1.value (d:= .is (.int k (min a b))) (fun w L0 ε hi hx=>?_) hk
 have h1:=hx x (by simp[ho,Op.operands,Call.operands])
 have h2:=hx y (by simp[ho,Op.operands,Call.operands])
 rw[ha]at h1;rw[hb]at h2
 have h1':ε x= .int k a:=h1
 have h2':ε y= .int k b:=h2
 refine⟨.int k (min a b),?_,rfl⟩
 simp only[execOp,ho,resolve,invoke,builtin]
 simp[go_sem,h1',h2',Builtin.min_,Builtin.min2]
 split<;>omega
def ZbX (l:List Int) (k:Nat):Int:=(l.take k).foldl min (l.getD 0 0)
abbrev v'i (l:List Int):Int:=ZbX l l.length
theorem ZeS {l:List Int} {k:Nat} (h:k<l.length):ZbX l (k+1)=min (ZbX l k) (l.getD k 0):=by
 unfold ZbX
 rw[Zf3 (d:=0) h,List.foldl_append]
 rfl
theorem Zdz {l:List Int} (h:l≠[]): ∀k,k≤l.length→ZbX l k∈l
 |0,_=>by
  have:0<l.length:=List.length_pos_iff.2 h
  exact x'w this
 |k+1,hk=>by
  rw[ZeS (by omega)]
  rcases Int.le_total (ZbX l k) (l.getD k 0)with e|e
  ·rw[Int.min_eq_left e];exact Zdz h k (by omega)
  ·rw[Int.min_eq_right e];exact x'w (by omega)
theorem ZfL (l:List Int) (hl:l.length≤1000000) (h0:l≠[]):Pure Tryz.prog 27 [z'C l] (iD (v'i l)):=by
 have hp:0<l.length:=List.length_pos_iff.2 h0
 refine Fun.of T [.tmp 2] Tryz.func27 rfl Tryz.ntmps27 Tryz.results27 rfl (by kernel_rfl) ?_
 repeat' first|refine vs T rfl fun K hK=>?_;(try simp (disch:=omega) only[go_sem,Nat.reduceBEq,Int.reduceToNat,y'w]);(first|refine hK _ _ ?_;clear hK K|refine⟨?_,hK _ _ ?_⟩<;>clear hK K;focus(try omega))|refine st rfl ?_|refine nl ?_
 refine VC.loop {k:Nat//k≤l.length} (fun x=>⟨z'J [(0,z'C l),(3,iD (ZbX l x.1)),(4,iD (x.1:Nat))],[]⟩) (fun x=>l.length-x.1) ⟨0,by omega⟩ ?_ ?_
 ·refine Weak.sub ?_
  simp[sub,upd,ZbX]
 rintro⟨k,hk⟩
 dsimp only
 rcases z'g k l.length with hlt|hge
 case inr=>
  obtain rfl:k=l.length:=by omega
  repeat' first|refine vs T rfl fun K hK=>?_;(try simp (disch:=omega) only[go_sem,Nat.reduceBEq,z'k]);(refine hK _ _ ?_;clear hK K)|refine st rfl ?_|refine sc rfl ?_|refine nl ?_|exact z'n T (z'a _) ⟨rfl,rfl⟩|with_reducible refine z'j (fun hc=>?_) (fun hc=>?_)<;>(try simp only[decide_eq_true_eq,decide_eq_false_iff_not,z'm]at hc)<;>(try(exfalso;omega))
 have hs:=ZeS hlt
 repeat' first|refine vt rfl fun K hK=>?_;refine Zqa rfl rfl rfl ?_;refine hK _ _ ?_;clear hK K;(try simp only[updO])|refine vs T rfl fun K hK=>?_;(try simp (disch:=omega) only[go_sem,Nat.reduceBEq,y'w,z'k,w64,z'f]);(first|refine hK _ _ ?_;clear hK K|refine⟨?_,hK _ _ ?_⟩<;>clear hK K;focus(try omega))|refine st rfl ?_|refine sc rfl ?_|refine nl ?_|with_reducible refine z'j (fun hc=>?_) (fun hc=>?_)<;>(try simp only[decide_eq_true_eq,decide_eq_false_iff_not,z'm]at hc)<;>(try(exfalso;omega))
 refine⟨⟨k+1,hlt⟩,Weak.sub ?_,by dsimp only;omega⟩
 simp[sub,upd,hs]
theorem ZiC (n:Nat) (hn:n≤1000) (part:List Int) (hpl:part.length≤1000000) (hin: ∀k,k<part.length→0≤part.getD k 0∧part.getD k 0<(n:Int)):Pure Tryz.prog 48 [z'C part,iD (n:Nat)] (x'F (wiF n part)):=by
 refine Fun.fz ?_
 refine Fun.of T [.tmp 4] Tryz.func48 rfl Tryz.ntmps48 Tryz.results48 rfl (by kernel_rfl) ?_
 repeat' first|refine vs T rfl fun K hK=>?_;(try simp (disch:=omega) only[go_sem,Nat.reduceBEq]);(first|refine hK _ _ ?_;clear hK K|refine⟨?_,fun bq hbq=>?_⟩;rotate_left;(try simp only[HB]at hbq);refine hK _ _ ?_;all_goals clear hK K)|refine st rfl ?_|refine nl ?_
 rotate_left
 ·exact⟨by omega,by omega,by omega⟩
 rw[Zdi]
 refine VC.loop {k:Nat//k≤part.length} (fun x=>⟨z'J [(0,z'C part),(5,.gs (some (bq,n)) n),(6,iD (x.1:Nat))],[(bq,.cells 4 (n*1) ((wiK n part x.1).map bD))]⟩) (fun x=>part.length-x.1) ⟨0,z'M _⟩ ?_ ?_
 ·refine z'v (by rw[Zkd]) ?_
  simp[sub,upd]
 rintro⟨k,hk⟩
 dsimp only
 rcases z'g k part.length with hlt|hge
 ·have hi:=hin k hlt
  have hst:=Zgt hlt hi
  repeat' first|refine vs T rfl fun K hK=>?_;(try simp (disch:=omega) only[go_sem,Nat.reduceBEq,y'w,z'k,w64,z'f,z'u]);(first|refine hK _ _ ?_;clear hK K|refine⟨?_,hK _ _ ?_⟩<;>clear hK K;focus(try omega))|refine st rfl ?_|refine sc rfl ?_|refine nl ?_|with_reducible refine z'j (fun hc=>?_) (fun hc=>?_)<;>(try simp only[decide_eq_true_eq,decide_eq_false_iff_not,z'm]at hc)<;>(try(exfalso;omega))
  ·rw[w'0];omega
  ·refine⟨⟨k+1,hlt⟩,z'v ?_ ?_,by dsimp only;omega⟩
   ·dsimp only
    rw[←hst,z'u]
   ·simp[sub,upd]
 obtain rfl:k=part.length:=by omega
 repeat' first|refine vs T rfl fun K hK=>?_;(try simp (disch:=omega) only[go_sem,Nat.reduceBEq,z'k]);(refine hK _ _ ?_;clear hK K)|refine st rfl ?_|refine sc rfl ?_|refine nl ?_|with_reducible refine z'j (fun hc=>?_) (fun hc=>?_)<;>(try simp only[decide_eq_true_eq,decide_eq_false_iff_not,z'm]at hc)<;>(try(exfalso;omega))
 exact z'n T (z'p _) (v'G (e:=4) (g:=some (bq,n)) (l:=(wiF n part).map bD) (by rw[w'5,w'0]) (z'w _) (fun b c e=>by cases e;exact z'D ..) (Zhh _))
def ZjB (g:Cs) (en:List (List Bool)) (md:Int) (part:List Int) (a:Nat) (q:Int×Int):Prop:=
 (∃e,e∈x'S g∧e.2.1=(a:Int)∧e.1∈part∧e.2.2∈part∧q=(e.1,e.2.2))∨
 (v'j g part (a:Nat)=false∧q.2= -1∧((md=1∧q.1∈part∧enA en a q.1=false)∨(q.1= -1∧(md=1→ ∀i,i∈part→enA en a i=true))))
theorem ZkQ {g:Cs} {en:List (List Bool)} {ag:Nat} (hT:Zau g en ag) (md:Int) (part:List Int) (hp:InR en part) (a:Nat) (ha:a<ag):Fun Tryz.prog 49 [.agg (csC g),v'l en,iD md,x'F (wiF en.length part),iD (a:Nat)] [] false (fun d H'=> ∃q:Int×Int,ZjB g en md part a q∧d= .tup [iD q.1,iD q.2]∧H'=[]):=by
 have c1:=Zby g hT.ok
 have hal:=Za3 hT.ok hT.right
 have hok:=(ZaG (x'G.1 hT.right)).1
 have hnd:=hT.nodes
 have hen:=hT.tab.len
 have hwl:=w'0 en.length part part.length
 have hwa: ∀i:Int,0≤i→i<(en.length:Int)→(wiF en.length part).getD i.toNat false=decide (i∈part):=fun i h0 h1=>by
  rw[ZcA (by omega),Int.toNat_of_nonneg h0]
 refine Fun.of T [.tmp 10,.tmp 11] Tryz.func49 rfl Tryz.ntmps49 Tryz.results49 rfl (by kernel_rfl) ?_
 repeat' first|refine vb (t:=32) rfl rfl rfl rfl ?_|refine vs T rfl fun K hK=>?_;(try simp (disch:=omega) only[go_sem,Nat.reduceBEq,Nat.reduceAdd,Nat.reduceLeDiff]);(first|refine hK _ _ ?_;clear hK K|refine Op1.callp rfl rfl (c1) rfl ?_;refine hK _ _ ?_;clear hK K)|refine st rfl ?_|refine nl ?_
 generalize hL:x'S g=L at hal hok
 refine VC.loop {k:Nat//k≤L.length∧ ∀i,i<k→ZdY part (a:Nat) (L.getD i (0,0,0))=false} (fun x=>⟨z'J [(1,v'l en),(2,iD md),(3,x'F (wiF en.length part)),(4,iD (a:Nat)),(12,Zaw L),(13,iD (x.1:Nat))],[]⟩) (fun x=>L.length-x.1) ⟨0,z'M _,fun i hi=>by omega⟩ ?_ ?_
 ·refine Weak.sub ?_
  simp[sub,upd,hL]
 rintro⟨k,hk,hs⟩
 dsimp only
 rcases z'g k L.length with hlt|hge
 ·have hm:=x'w (d:=((0,0,0):Ed)) hlt
  have e3:=hok _ hm
  have w1:=hwa (L.getD k (0,0,0)).1 (by omega) (by omega)
  have w2:=hwa (L.getD k (0,0,0)).2.2 (by omega) (by omega)
  repeat' first|refine dr (id:=6) T 11 (by kernel_rfl) ?_|refine gn ?_|(first|apply VCg.step T rfl rfl|apply exF);focus((try simp (disch:=omega) only[go_sem,Nat.reduceBEq,w'D,edR,z'f]);(first|exact rfl|refine⟨?_,rfl⟩;try omega))|refine vs T rfl fun K hK=>?_;(try simp (disch:=omega) only[go_sem,Nat.reduceBEq,w'D,edR,v'v,x'h,hwl,w1,w2,w64,z'f]);(first|refine hK _ _ ?_;clear hK K|refine⟨?_,hK _ _ ?_⟩<;>clear hK K;focus(try omega))|refine st rfl ?_|refine sc rfl ?_|refine nl ?_|refine gs rfl rfl ?_|with_reducible refine z'j (fun hc=>?_) (fun hc=>?_)<;>(try simp only[decide_eq_true_eq,decide_eq_false_iff_not,beq_iff_eq,beq_eq_false_iff_ne,ne_eq,z'm]at hc)<;>(try(exfalso;omega))
  ·exact y'9 T (z'a _) ⟨((L.getD k (0,0,0)).1,(L.getD k (0,0,0)).2.2),.inl ⟨_,by rw[hL];exact hm,by assumption,by assumption,by assumption,rfl⟩,rfl,rfl⟩
  all_goals
   refine⟨⟨k+1,hlt,x'm hs (by simp only[ZdY,Zcg];simp_all)⟩,Weak.sub ?_,by dsimp only;omega⟩
   simp[sub,upd]
 obtain rfl:k=L.length:=by omega
 have hA:v'j g part (a:Nat)=false:=by unfold v'j;rw[hL];exact Zho hs
 repeat' first|refine vs T rfl fun K hK=>?_;(try simp (disch:=omega) only[go_sem,Nat.reduceBEq,x'h]);(refine hK _ _ ?_;clear hK K)|refine st rfl ?_|refine sc rfl ?_|refine nl ?_|with_reducible refine z'j (fun hc=>?_) (fun hc=>?_)<;>(try simp only[decide_eq_true_eq,decide_eq_false_iff_not,z'm]at hc)<;>(try(exfalso;omega))
 refine VC.loop {k:Nat//k≤en.length∧(md=1→ ∀i:Nat,i<k→(i:Int)∈part→enA en a (i:Nat)=true)} (fun x=>⟨z'J [(1,v'l en),(2,iD md),(3,x'F (wiF en.length part)),(4,iD (a:Nat)),(14,iD (x.1:Nat))],[]⟩) (fun x=>en.length-x.1) ⟨0,z'M _,fun _ i hi=>by omega⟩ ?_ ?_
 ·refine Weak.sub ?_
  simp[sub,upd]
 rintro⟨k,hk,hs⟩
 dsimp only
 have fin:(md=1→ ∀i,i∈part→enA en a i=true)→ZjB g en md part a (-1, -1):=fun h=> .inr ⟨hA,rfl,.inr ⟨rfl,h⟩⟩
 rcases z'g k en.length with hlt|hge
 ·have w1:(wiF en.length part).getD k false=decide ((k:Int)∈part):=ZcA hlt
  have hrow:(en.getD k []).length=ag:=hT.tab.row _ (x'w hlt)
  have hv:(en.getD k []).getD a false=enA en a (k:Nat):=by unfold enA;rw[z'f]
  repeat' first|refine vs T rfl fun K hK=>?_;(try simp (disch:=omega) only[go_sem,Nat.reduceBEq,Zcn,v'v,w'a,hwl,w1,hrow,hv,w64,z'f]);(first|refine hK _ _ ?_;clear hK K|refine⟨?_,hK _ _ ?_⟩<;>clear hK K;focus(try omega))|refine st rfl ?_|refine sc rfl ?_|refine nl ?_|refine gs rfl rfl ?_|with_reducible refine z'j (fun hc=>?_) (fun hc=>?_)<;>(try simp only[decide_eq_true_eq,decide_eq_false_iff_not,beq_iff_eq,beq_eq_false_iff_ne,ne_eq,z'N,z'R,z'm]at hc)<;>(try(exfalso;omega))
  ·exact y'9 T (z'a _) ⟨((k:Int), -1),.inr ⟨hA,rfl,.inl ⟨by assumption,by assumption,by assumption⟩⟩,rfl,rfl⟩
  ·refine⟨⟨k+1,hlt,fun h=>x'm (hs h) (fun _=>by assumption)⟩,Weak.sub ?_,by dsimp only;omega⟩
   simp[sub,upd]
  ·refine⟨⟨k+1,hlt,fun h=>x'm (hs h) (fun h'=>absurd h' (by assumption))⟩,Weak.sub ?_,by dsimp only;omega⟩
   simp[sub,upd]
  ·exact y'9 T (z'a _) ⟨(-1, -1),fin (fun h=>absurd h (by assumption)),rfl,rfl⟩
 obtain rfl:k=en.length:=by omega
 have hfin:=fin fun h i hi=>by
  have:=hp.2 i hi
  have h2:=hs h i.toNat (by omega) (by rw[Int.toNat_of_nonneg this.1];exact hi)
  rwa [Int.toNat_of_nonneg this.1]at h2
 repeat' first|refine vs T rfl fun K hK=>?_;(try simp (disch:=omega) only[go_sem,Nat.reduceBEq,w'a]);(refine hK _ _ ?_;clear hK K)|refine st rfl ?_|refine sc rfl ?_|refine nl ?_|refine gs rfl rfl ?_|with_reducible refine z'j (fun hc=>?_) (fun hc=>?_)<;>(try simp only[decide_eq_true_eq,decide_eq_false_iff_not,z'm]at hc)<;>(try(exfalso;omega))
 exact y'9 T (z'a _) ⟨(-1, -1),hfin,rfl,rfl⟩
def CovA (g:Cs) (en:List (List Bool)) (md:Int) (part:List Int) (x:Int) (es:List Ed) (a:Nat):Prop:=
 (v'j g part (a:Nat)=true→(a:Int)∈agE es)∧(v'j g part (a:Nat)=false→md=1→ ∃i,enA en a i=false∧(i=x∨ ∃e,e∈es∧e.2.2=i))
theorem CovA.app {g:Cs} {en:List (List Bool)} {md:Int} {part:List Int} {x:Int} {es fs:List Ed} {a:Nat} (h:CovA g en md part x es a):CovA g en md part x (es++fs) a:=by
 refine⟨fun h1=>?_,fun h1 h2=>?_⟩
 ·rw[agE,z'E]
  exact y'B _ (h.1 h1)
 ·obtain⟨i,h3,h4⟩:=h.2 h1 h2
  exact⟨i,h3,h4.imp id fun⟨e,h5,h6⟩=>⟨e,y'B _ h5,h6⟩⟩
structure CyI (g:Cs) (en:List (List Bool)) (md:Int) (part:List Int) (x:Int) (a:Nat) (at_:Int) (w:List Int) (es:List Ed):Prop where
 eqw:w=agE es
 chn:Chn x es at_
 sub: ∀e,e∈es→e∈x'M g (wiF en.length part)
 pos:at_∈part
 cov: ∀a',a'<a→CovA g en md part x es a'
 len:w.length≤a*2000
structure CyP (g:Cs) (en:List (List Bool)) (ag:Nat) (md:Int) (part:List Int) (w:List Int):Prop where
 good:Zdj g en ag md part
 es: ∃es,w=agE es∧Chn (v'i part) es (v'i part)∧(∀e,e∈es→e∈x'M g (wiF en.length part))∧ ∀a,a<ag→CovA g en md part (v'i part) es a
section
variable {g : Cs} {en : List (List Bool)} {ag : Nat} {md : Int} {part : List Int}
theorem ZhM (hp:InR en part) {x:Int} (hx:x∈part):isN (wiF en.length part) x=true:=by
 have:=hp.2 x hx
 rw[Zne (by rw[w'0];exact this),ZcA (by omega),Int.toNat_of_nonneg this.1,decide_eq_true hx]
theorem ZhV (hT:Zau g en ag) (hp:InR en part) {x:Int} (hx:x∈part):okI g (wiF en.length part) x=true:=by
 have h1:=hp.2 x hx
 unfold okI
 rw[ZhM hp hx,decide_eq_true h1.1,decide_eq_true (show x<(z'O g:Int) by rw[hT.nodes];exact h1.2)]
 rfl
theorem Zh2 (hT:Zau g en ag) (hG:Zdj g en ag md part) {x y:Int} (hx:x∈part) (hy:y∈part): ∃es,ZjU (ZbB g x y (wiF en.length part))= .tup [z'C (agE es),bD true]∧Chn x es y∧(∀e,e∈es→e∈x'M g (wiF en.length part))∧es.length≤1000:=by
 obtain⟨l1,l2⟩:=ZnP (x'G.1 hT.right) (ZhV hT hG.inr hx) (ZhV hT hG.inr hy)
 cases hI:ZbB g x y (wiF en.length part)with
 |none=>exact absurd (hG.rch x y hx hy) (l2.1 hI)
 |some w=>
  obtain⟨k1,k2⟩:=l1 w hI
  obtain⟨es,h1,h2,rfl⟩:=ZoR k1
  refine⟨es,rfl,h2,h1,?_⟩
  have:=hT.nodes
  have:=hT.tab.len
  have:(agE es).length=es.length:=z's ..
  omega
theorem ZnT (hT:Zau g en ag) (hp:InR en part) {e:Ed} (he:e∈x'S g) (h1:e.1∈part) (h2:e.2.2∈part):e∈x'M g (wiF en.length part):=by
 have hb: ∀{x},x∈part→isB (wiF en.length part) x=true:=fun{x} hx=>by
  rw[Zew (hp.2 x hx).1];exact ZhM hp hx
 simp only[x'M,y'x,z'i]
 exact⟨he,hb h1,hb h2⟩
theorem Zhm {a:Nat}:v'j g part (a:Nat)=true↔ ∃e,e∈x'S g∧e.2.1=(a:Int)∧e.1∈part∧e.2.2∈part:=by
 unfold v'j
 rw[List.any_eq_true]
 simp only[ZdY,Zcg,z'i,beq_iff_eq,decide_eq_true_eq]
theorem ZiX (hf:Zaq g en ag md part=true) {a:Nat} (ha:a<ag) (hA:v'j g part (a:Nat)=false):(md=1→ ∃i,i∈part∧enA en a i=false)∧(md=2→ ∀i,i∈part→enA en a i=false):=by
 unfold Zaq at hf
 rw[z'i,z'N,List.any_eq_false]at hf
 have hu:=hf.1 a (z'G.2 ha)
 unfold Zen at hu
 rw[hA]at hu
 simp only[z'r,z'W,x'A,z'i,beq_iff_eq,decide_eq_true_eq,not_or,not_and]at hu
 unfold cnW at hu
 rw[z'X]at hu
 constructor
 ·intro h1
  refine z'8 fun hn=>hu.1 h1 ?_
  have:part.countP (enA en a)=part.length:=List.countP_eq_length.2 fun i hi=>by
   cases h:enA en a i with
   |true=>rfl
   |false=>exact absurd ⟨i,hi,h⟩ hn
  rw[this]
 ·intro h2 i hi
  cases h:enA en a i with
  |false=>rfl
  |true=>
   have:0<part.countP (enA en a):=List.countP_pos_iff.2 ⟨i,hi,h⟩
   exact absurd (by omega) (hu.2 h2)
theorem ZiP: ∀{es:List Ed} {x y:Int},Chn x es y→y=x∨ ∃e,e∈es∧e.2.2=y
 |[],x,y,h=> .inl h.symm
 |e::es,x,y,h=>by
  rcases ZiP h.2 with h'|⟨d,h1,h2⟩
  ·exact .inr ⟨e,by simp,h'.symm⟩
  ·exact .inr ⟨d,z'd _ h1,h2⟩
theorem CyI.skip (hG:Zdj g en ag md part) {x at_:Int} {a:Nat} {w:List Int} {es:List Ed} (h:CyI g en md part x a at_ w es) (ha:a<ag) (hA:v'j g part (a:Nat)=false) (hC:md=1→ ∀i,i∈part→enA en a i=true):CyI g en md part x (a+1) at_ w es:=by
 refine⟨h.eqw,h.chn,h.sub,h.pos,x'm h.cov ⟨fun h1=>(by rw[hA]at h1;cases h1),fun _ h1=>?_⟩,by have:=h.len;omega⟩
 obtain⟨i,hi,he⟩:=(ZiX hG.fair ha hA).1 h1
 rw[hC h1 i hi]at he;cases he
theorem CyI.goB {x at_ fr:Int} {a:Nat} {w:List Int} {es fs:List Ed} (h:CyI g en md part x a at_ w es) (hA:v'j g part (a:Nat)=false) (hfr:fr∈part) (he:enA en a fr=false) (h1:Chn at_ fs fr) (h2: ∀e,e∈fs→e∈x'M g (wiF en.length part)) (h3:fs.length≤1000):CyI g en md part x (a+1) fr (w++agE fs) (es++fs):=by
 have hl:(agE fs).length=fs.length:=z's ..
 refine⟨by rw[h.eqw];simp[agE],h.chn.app h1,fun e hm=>?_,hfr,x'm (fun a' ha=>(h.cov a' ha).app) ⟨fun h1=>(by rw[hA]at h1;cases h1),fun _ _=>⟨fr,he,ZiP (h.chn.app h1)⟩⟩,by rw[z'o];have:=h.len;omega⟩
 rcases y'g.1 hm with hm|hm
 ·exact h.sub e hm
 ·exact h2 e hm
theorem CyI.goA (hT:Zau g en ag) (hp:InR en part) {x at_:Int} {a:Nat} {w:List Int} {es fs:List Ed} {d:Ed} (h:CyI g en md part x a at_ w es) (hd:d∈x'S g) (hda:d.2.1=(a:Int)) (hd1:d.1∈part) (hd2:d.2.2∈part) (h1:Chn at_ fs d.1) (h2: ∀e,e∈fs→e∈x'M g (wiF en.length part)) (h3:fs.length≤1000):CyI g en md part x (a+1) d.2.2 (w++agE fs++[(a:Int)]) (es++fs++[d]):=by
 have hl:(agE fs).length=fs.length:=z's ..
 refine⟨by rw[h.eqw];simp[agE,hda],(h.chn.app h1).app (Chn.one d),fun e hm=>?_,hd2,x'm (fun a' ha=>((h.cov a' ha).app).app) ⟨fun _=>by simp[agE,hda],fun h1=>(by rw[Zhm.2 ⟨d,hd,hda,hd1,hd2⟩]at h1;cases h1)⟩,by rw[z'o,z'o];have:=h.len;simp;omega⟩
 rcases y'g.1 hm with hm|hm
 ·rcases y'g.1 hm with hm|hm
  ·exact h.sub e hm
  ·exact h2 e hm
 ·rw[y'E]at hm
  subst hm
  exact ZnT hT hp hd hd1 hd2
theorem ZjV (hT:Zau g en ag) (hG:Zdj g en ag md part) {x y:Int} (hx:x∈part) (hy:y∈part):Fun Tryz.prog 50 [.agg (csC g),iD x,iD y,x'F (wiF en.length part)] [] false (fun d H'=> ∃fs:List Ed,(Chn x fs y∧(∀e,e∈fs→e∈x'M g (wiF en.length part))∧fs.length≤1000)∧d= .tup [z'C (agE fs),bD true]∧H'=[]):=by
 obtain⟨fs,f1,f2,f3,f4⟩:=Zh2 hT hG hx hy
 have hen:=hT.tab.len
 have cI:=ZfS g hT.ok hT.right x y (wiF en.length part) (y'z (Nat.le_of_eq (w'0 _ _ _)) (by omega))
 rw[f1]at cI
 exact cI.mono fun d H' h=>⟨fs,⟨f2,f3,f4⟩,h.1,h.2⟩
theorem Zmc (hp:InR en part) {a:Nat} {q:Int×Int} (h:ZjB g en md part a q) (h0:0≤q.1):q.1∈part:=by
 rcases h with⟨e,_,_,h1,_,rfl⟩|⟨_,_,⟨_,h1,_⟩|⟨h1,_⟩⟩
 ·exact h1
 ·exact h1
 ·omega
theorem ZjM (hT:Zau g en ag) (hp:part.length≤1000000):Fun Tryz.prog 26 [.agg (csC g),v'l en,iD (ag:Nat),iD md,z'C part] [] false (fun d H'=> ∃q:List Int×Bool,(q.1.length≤500000∧(q.2=true→CyP g en ag md part q.1))∧d= .tup [z'C q.1,bD q.2]∧H'=[]):=by
 have cG:=ZkR hT md part hp
 have hag:=hT.tab.ag
 have hen:=hT.tab.len
 have c2:=fun(h:Zdj g en ag md part)=>ZiC en.length hen part hp (fun k hk=>h.inr.2 _ (x'w hk))
 have c3:=fun(h:Zdj g en ag md part)=>ZfL part hp h.ne
 refine Fun.fzE ?_
 refine Fun.of T [.tmp 10,.tmp 11] Tryz.func26 rfl Tryz.ntmps26 Tryz.results26 rfl (by kernel_rfl) ?_
 repeat' first|refine vb (t:=32) rfl rfl rfl rfl ?_|refine vs T rfl fun K hK=>?_;(try simp (disch:=omega) only[go_sem,Nat.reduceBEq,Nat.reduceAdd,Nat.reduceLeDiff,w'a]);(first|refine hK _ _ ?_;clear hK K|refine Op1.callp rfl rfl (c2 (hq (by assumption))) rfl ?_;refine hK _ _ ?_;clear hK K|refine Op1.callp rfl rfl (c3 (hq (by assumption))) rfl ?_;refine hK _ _ ?_;clear hK K|refine Op1.callx rfl rfl (cG) rfl (fun q hq=>?_);refine hK _ _ ?_;clear hK K)|refine st rfl ?_|refine sc rfl ?_|refine nl ?_|with_reducible refine z'j (fun hc=>?_) (fun hc=>?_)<;>(try simp only[z'N,z'R]at hc)
 ·exact y'9 T (z'a _) ⟨([],false),⟨by simp,fun h=>by cases h⟩,⟨_,rfl,z't y'q (FzL.refl _ _)⟩⟩
 have hG:=hq (by assumption)
 have hx:v'i part∈part:=Zdz hG.ne _ (z'w _)
 have c4:=c3 hG
 have hInl:=w'0 en.length part part.length
 clear c2 c3 cG hq
 refine VC.loop {z:Nat×Int×List Int×List Ed×G//z.1≤ag∧CyI g en md part (v'i part) z.1 z.2.1 z.2.2.1 z.2.2.2.1∧gOk z.2.2.2.2 z.2.2.1.length} (fun z=>⟨z'J [(1,v'l en),(2,iD (ag:Nat)),(3,iD md),(4,z'C part),(5,.pt (csC g)),(12,x'F (wiF en.length part)),(13,iD z.1.2.1),(14,.gs z.1.2.2.2.2 z.1.2.2.1.length),(15,iD (z.1.1:Nat))],shp z.1.2.2.2.2 3 1 (z.1.2.2.1.map iD) []⟩) (fun z=>ag-z.1.1) ⟨(0,v'i part,[],[],none),z'M _,⟨rfl,rfl,fun e h=>(by cases h),hx,fun a h=>by omega,z'M _⟩,rfl⟩ ?_ ?_
 ·refine z'v rfl ?_
  simp[sub,upd]
 rintro⟨⟨a,at_,w,es,y⟩,ha,hC,hy⟩
 dsimp only at ha hC hy⊢
 have hwl:=hC.len
 rcases z'g a ag with hlt|hge
 case inr=>
  obtain rfl:a=ag:=by omega
  obtain⟨fs,f1,f2,f3,f4⟩:=Zh2 hT hG hC.pos hx
  have cI:=ZfS g hT.ok hT.right at_ (v'i part) (wiF en.length part) (y'z (Nat.le_of_eq hInl) (by omega))
  rw[f1]at cI
  repeat' first|refine dr (id:=17) T 10 (by kernel_rfl) ?_|refine gn ?_|apply VCg.step T rfl rfl;focus((try simp (disch:=omega) only[go_sem,Nat.reduceBEq,Nat.reduceAdd,Nat.reduceLeDiff]);(first|exact rfl|refine Op1.callp rfl rfl (c4) rfl ?_;exact⟨rfl,rfl⟩|refine Op1.callp rfl rfl (cI) rfl ?_;exact⟨rfl,rfl⟩))|refine vs T rfl fun K hK=>?_;(try simp (disch:=omega) only[go_sem,Nat.reduceBEq,z'k]);(first|refine hK _ _ ?_;clear hK K|refine⟨_,_,_,_,(by repeat (exact Sp.here)),?_,(by exact⟨rfl,rfl⟩),⟨by decide,?_⟩,fun g' hg'=>hK _ _ ?_⟩<;>clear hK K)|refine st rfl ?_|refine sc rfl ?_|refine nl ?_|with_reducible refine z'j (fun hc=>?_) (fun hc=>?_)<;>(try simp only[decide_eq_true_eq,decide_eq_false_iff_not,z'm]at hc)<;>(try(exfalso;omega))
  ·rw[z's,z'u]
  ·omega
  ·have hfl:(agE fs).length=fs.length:=z's ..
   refine y'9 T (z'p _) ⟨(w++agE fs,true),⟨by rw[z'o];omega,fun _=>⟨hG,es++fs,by rw[hC.eqw];simp[agE],hC.chn.app f2,fun e hm=>(y'g.1 hm).elim (hC.sub e) (f3 e),fun a' ha=>(hC.cov a' ha).app⟩⟩,⟨_,rfl,z't (v'G (e:=3) (l:=(w++agE fs).map iD) (by rw[z'k,z'o,hfl]) hg' (fun b c e=>?_) (Zhj _)) (FzL.refl _ _)⟩⟩
   subst e
   rw[z'E, ←Zac (agE fs)]
   exact x'x
 have cQ:=ZkQ hT md part hG.inr a hlt
 repeat' first|refine vs T rfl fun K hK=>?_;(try simp (disch:=omega) only[go_sem,Nat.reduceBEq,Nat.reduceAdd,Nat.reduceMul,Nat.reduceLeDiff,w64,z'k]);(first|refine hK _ _ ?_;clear hK K|refine⟨_,_,_,_,(by repeat (exact Sp.here)),?_,(by exact⟨rfl,rfl⟩),⟨by decide,?_⟩,fun g' hg'=>hK _ _ ?_⟩<;>clear hK K|refine Op1.callx rfl rfl (cQ) rfl (fun q hq=>?_);refine hK _ _ ?_;clear hK K|refine Op1.callx rfl rfl (ZjV hT hG hC.pos (Zmc hG.inr hq (by omega))) rfl (fun q hq=>?_);refine hK _ _ ?_;clear hK K)|refine st rfl ?_|refine sc rfl ?_|refine nl ?_|with_reducible refine z'j (fun hc=>?_) (fun hc=>?_)<;>(try simp only[decide_eq_true_eq,decide_eq_false_iff_not,ge_iff_le,y'e,z'm]at hc)<;>(try(exfalso;omega))
 ·have hsk:v'j g part (a:Nat)=false∧(md=1→ ∀i,i∈part→enA en a i=true):=by
   rcases hq with⟨e,_,_,h1,_,rfl⟩|⟨hA,_,⟨_,h1,_⟩|⟨_,h2⟩⟩
   ·have:=(hG.inr.2 _ h1).1
    dsimp only at hc
    omega
   ·have:=(hG.inr.2 _ h1).1
    omega
   ·exact⟨hA,h2⟩
  refine⟨⟨(a+1,at_,w,es,y),hlt,hC.skip hG hlt hsk.1 hsk.2,hy⟩,z'v rfl ?_,by dsimp only;omega⟩
  simp[sub,upd]
 ·rw[z's,z'u]
 ·have:=hq.2.2
  omega
 ·rw[z'o,z's,Zac,z's,agE,z's,z'u]
 ·have:=hq.2.2
  omega
 ·rename_i r1 q0 hq0 r2 g0 r3
  rcases hq0 with⟨e,e1,e2,e3,e4,rfl⟩|⟨_,h2,_⟩
  ·have hql:(agE q).length=q.length:=z's ..
   refine⟨⟨(a+1,e.2.2,w++agE q++[(a:Int)],es++q++[e],g'),hlt,hC.goA hT hG.inr e1 e2 e3 e4 hq.1 hq.2.1 hq.2.2,by rw[z'o,z'o,hql];exact hg'⟩,z'v ?_ ?_,by dsimp only;omega⟩
   ·dsimp only
    rw[z'E,z'E,Zac]
    rfl
   ·simp[sub,upd,hql]
    omega
  ·omega
 ·rename_i r1 q0 hq0 r2
  rcases hq0 with⟨e,e1,e2,e3,e4,rfl⟩|⟨hA,h2,⟨h3,h4,h5⟩|⟨h3,_⟩⟩
  ·have:=(hG.inr.2 _ e4).1
   dsimp only at hc
   omega
  ·have hql:(agE q).length=q.length:=z's ..
   refine⟨⟨(a+1,q0.1,w++agE q,es++q,g'),hlt,hC.goB hA h4 h5 hq.1 hq.2.1 hq.2.2,by rw[z'o,hql];exact hg'⟩,z'v ?_ ?_,by dsimp only;omega⟩
   ·dsimp only
    rw[z'E,Zac]
   ·simp[sub,upd,hql]
  ·omega
abbrev ZpR (C:List Cf) (P B:List Int) (g:Cs) (en:List (List Bool)) (ag:Nat) (md:Int) (part:List Int) (q:List Int×List Int×Bool):Prop:=
 q.1.length≤1000000∧q.2.1.length≤500000∧(q.2.2=true→q.1=toI C.length P B (v'i part)∧CyP g en ag md part q.2.1)
theorem Zk3 (hT:Zau g en ag) (hp:part.length≤1000000) (C:List Cf) (P B:List Int) (hP:Ze0 C.length P B) (hCl:C.length≤1000):Fun Tryz.prog 9 [.agg (spC C g P B),v'l en,iD (ag:Nat),iD md,z'C part] [] false (fun d H'=> ∃q:List Int×List Int×Bool,ZpR C P B g en ag md part q∧d= .tup [z'C q.1,z'C q.2.1,bD q.2.2]∧H'=[]):=by
 have cY:=ZjM (md:=md) hT hp
 have c3:=fun(h:part≠[])=>ZfL part hp h
 have c4:=Zlt C g P B hP (v'i part)
 refine Fun.fzE ?_
 refine Fun.of T [.tmp 10,.tmp 11,.tmp 12] Tryz.func9 rfl Tryz.ntmps9 Tryz.results9 rfl (by kernel_rfl) ?_
 repeat' first|refine vb (t:=34) rfl rfl rfl rfl ?_|refine dr (id:=4) T 6 (by kernel_rfl) ?_|refine gn ?_|apply VCg.step T rfl rfl;focus((try simp (disch:=omega) only[go_sem,Nat.reduceBEq,Nat.reduceAdd,Nat.reduceLeDiff]);(first|exact rfl|refine Op1.callp rfl rfl (c3 ((hq.2 (by assumption)).good.ne)) rfl ?_;exact⟨rfl,rfl⟩|refine Op1.callp rfl rfl (c4) rfl ?_;exact⟨rfl,rfl⟩))|refine vs T rfl fun K hK=>?_;(try simp (disch:=omega) only[go_sem,Nat.reduceBEq,Nat.reduceAdd,Nat.reduceLeDiff]);(first|refine hK _ _ ?_;clear hK K|refine Op1.callx rfl rfl (cY) rfl (fun q hq=>?_);refine hK _ _ ?_;clear hK K)|refine st rfl ?_|refine sc rfl ?_|refine nl ?_|with_reducible refine z'j (fun hc=>?_) (fun hc=>?_)<;>(try simp only[z'N,z'R]at hc)
 ·exact ZpF T (z'a _) ⟨([],[],false),⟨by simp,by simp,fun h=>by cases h⟩,⟨_,rfl,z't y'q (z't y'q (FzL.refl _ _))⟩⟩
 ·refine ZpF T (z'a _) ⟨(toI C.length P B (v'i part),q.1,true),⟨?_,hq.1,fun _=>⟨rfl,hq.2 (by assumption)⟩⟩,Fz.refl _ _⟩
  have:(toI C.length P B (v'i part)).length≤C.length:=by
   unfold toI
   split
   ·rename_i h
    simp only[z'i,decide_eq_true_eq]at h
    have:=Zgq hP (v'i part).toNat (by omega)
    omega
   ·simp
  dsimp only
  omega
end
end Go.Proofs.YtfneeacgkdhldaaGreat
