/- Contracts: a configuration as text, both sides. No condition. -/
import Derived.Test.YthlkpnjjkgmlkaaGreatFe
namespace Go.Proofs.YthlkpnjjkgmlkaaGreat
set_option maxHeartbeats 16000000
set_option linter.unusedSimpArgs false
set_option linter.unusedVariables false
set_option maxRecDepth 20000
open Go Go.Proofs Go.Vc
attribute [local irreducible] x'c VCg VCw VCx
theorem ZlT: ∀(k:Nat) (n:Int),0≤n→n<10^(k+1)→k≤17→Pure Tryz.prog 149 [iD n] (sD ⟨(ZbF k n.toNat).toArray⟩):=by
 intro k
 induction k with
 |zero=>
  intro n h0 h1 _
  refine Fun.of T [.tmp 2] Tryz.func149 rfl Tryz.ntmps149 Tryz.results149 rfl (by kernel_rfl) ?_
  repeat' first|refine dr (id:=3) T 9 (by kernel_rfl) ?_|apply VCg.step T rfl rfl;focus((try simp (disch:=omega) only[go_sem,Nat.reduceBEq]);(first|exact rfl|refine⟨?_,rfl⟩;try omega))|refine vs T rfl fun K hK=>?_;(try simp (disch:=omega) only[go_sem,Nat.reduceBEq,Nat.reduceMul,Nat.reduceLeDiff]);(refine hK _ _ ?_;clear hK K)|refine st rfl ?_|refine sc rfl ?_|refine nl ?_|refine z'A T (z'a _) ?_;(try simp only[upd,Nat.reduceBEq,cond_true,cond_false,and_true])|with_reducible refine z'B (fun hc=>?_) (fun hc=>?_)
  ·rw[Zg7 h0 (by omega),Zhh _ _ (by omega)]
  ·simp at hc;omega
 |succ k ih=>
  intro n h0 h1 hk
  have hb:n≤1000000000000000000:=by
   have h2:(10:Nat)^(k+1+1)≤10^18:=y'X (by omega) (by omega)
   have h3:((10^(k+1+1):Nat):Int)≤((10^18:Nat):Int):=by exact_mod_cast h2
   simp only[Int.natCast_pow]at h3
   have h4:n<((10:Nat):Int)^(k+1+1):=h1
   have:(((10:Nat):Int)^18)=1000000000000000000:=by decide
   omega
  have hd:n/10<10^(k+1):=by
   have:(10:Int)^(k+1+1)=10^(k+1)*10:=Int.pow_succ ..
   omega
  have hq:=Zuk (n:=n) (k:=10) h0 (by omega) (by omega)
  have hr:=ZsH (n:=n) (k:=10) h0
  have hl:=Zee k (n/10).toNat
  have hm:0≤n % 10∧n % 10<10:=by omega
  have hg:=Zg7 hm.1 hm.2
  clear h1
  refine Fun.of T [.tmp 2] Tryz.func149 rfl Tryz.ntmps149 Tryz.results149 rfl (by kernel_rfl) ?_
  repeat' first|refine dr (id:=3) T 9 (by kernel_rfl) ?_|refine gn ?_|apply VCg.step T rfl rfl;focus((try simp (disch:=omega) only[go_sem,Nat.reduceBEq,Nat.reduceMul,Nat.reduceLeDiff,hq,hr,hg]);(first|exact rfl|refine⟨?_,rfl⟩;try omega|refine Op1.callp rfl rfl (ih _ (by omega) (by omega) (by omega)) rfl ?_;exact⟨rfl,rfl⟩))|refine vs T rfl fun K hK=>?_;(try simp (disch:=omega) only[go_sem,Nat.reduceBEq,Nat.reduceMul,Nat.reduceLeDiff]);(first|refine hK _ _ ?_;clear hK K|refine⟨?_,hK _ _ ?_⟩<;>clear hK K)|refine st rfl ?_|refine sc rfl ?_|refine nl ?_|refine z'A T (z'a _) ?_;(try simp only[upd,Nat.reduceBEq,cond_true,cond_false,and_true])|with_reducible refine z'B (fun hc=>?_) (fun hc=>?_)
  ·have hn:n<10:=by simpa using hc
   rw[Zg7 h0 hn,Zhh _ _ (by omega)]
  ·simp[ByteArray.size];omega
  ·have hn: ¬n<10:=by simpa using hc
   rw[show(⟨#[UInt8.ofNat (48+(n % 10).toNat)]⟩:ByteArray)=⟨[UInt8.ofNat (48+(n % 10).toNat)].toArray⟩ from rfl,Ze1,Zor _ _ (by omega)]
   rw[show(n/10).toNat=n.toNat/10 by omega,show(n % 10).toNat=n.toNat % 10 by omega]
theorem v'3 (n:Int) (h:0≤n∧n<1000000):Pure Tryz.prog 149 [iD n] (sD (Ze4 n)):=ZlT 5 n h.1 (by omega) (by omega)
def tx (l:By):ByteArray:=⟨l.toArray⟩
theorem Zc9 (a b:By):tx (a++b)=tx a++tx b:=(Ze1 a b).symm
theorem w'l (a:By):(tx a).size=a.length:=by simp[tx,ByteArray.size]
theorem Zh5 (n:Int):Ze4 n=tx (w'L n):=rfl
theorem ZaT (n:Int):(w'L n).length≤6:=Zee 5 n.toNat
theorem ZcH: ∀l:List Int,(w'1 l).length≤7*l.length
 |[]=>z'f _
 |n::l=>by have h1:=ZcH l;have h2:=ZaT n;simp only[w'1,z'u,z'h];omega
theorem Zh8: ∀l:List En,(ZaP l).length≤14*l.length
 |[]=>z'f _
 |e::l=>by have h1:=Zh8 l;have h2:=ZaT e.1;have h3:=ZaT e.2;simp only[ZaP,z'u,z'h];omega
theorem Zjr {α:Type} {l:List α} {k:Nat} (d:α) (h:k<l.length):l.take (k+1)=l.take k++[l.getD k d]:=by
 rw[y'e,v'p (d:=d) h];rfl
theorem Zpq {l:List Int} {k:Nat} (h:k<l.length):w'1 (l.take (k+1))=w'1 (l.take k)++(32::w'L (l.getD k 0)):=by
 rw[Zjr 0 h,Zq4];simp[w'1]
theorem Zow {l:List En} {k:Nat} (h:k<l.length):ZaP (l.take (k+1))=ZaP (l.take k)++(32::(w'L (l.getD k (0,0)).1++61::w'L (l.getD k (0,0)).2)):=by
 rw[Zjr (0,0) h,Zp1];simp[ZaP]
theorem ZfE (c:Cf) (hO:OkC c): ∀k,(v'H c k).length≤22000*k
 |0=>z'f _
 |k+1=>by
  have h1:=ZfE c hO k
  have h2:=ZcH (c.regs.getD k [])
  have h3:=Zh8 (c.bufs.getD k [])
  have h4:=Zc2 hO.row k
  have h5:=Zc2 hO.buf k
  have h6:=ZaT (k:Nat)
  have h7:=ZaT (c.pc.getD k 0)
  simp only[v'H,Zrg,z'h,z'u,z'2]
  omega
theorem ZuK (a b:By):tx (a++32::b)=tx a++(⟨#[32]⟩++tx b):=by rw[show a++32::b=a++([32]++b) from rfl,Zc9,Zc9];rfl
theorem Zo9 {l:List Int} {k:Nat} (h:l.all okN=true) (hk:k<l.length):inN (l.getD k 0):=Zf9.1 (v'x.1 h k hk)
theorem Zlo (l:List Int) (hl:l.length≤1000) (ha:l.all okN=true):Pure Tryz.prog 150 [y'c l] (sD (tx (w'1 l))):=by
 refine Fun.of T [.tmp 2] Tryz.func150 rfl Tryz.ntmps150 Tryz.results150 rfl (by kernel_rfl) ?_
 repeat' first|refine vs T rfl fun K hK=>?_;(try simp (disch:=omega) only[go_sem,Nat.reduceBEq,z'I]);(refine hK _ _ ?_;clear hK K)|refine st rfl ?_|refine nl ?_
 refine VC.loop {k:Nat//k≤l.length} (fun p=>⟨y'd [(3,sD (tx (w'1 (l.take p.1)))),(6,y'c l),(7,iD (l.length:Nat)),(8,iD (p.1:Nat))],[]⟩) (fun p=>l.length-p.1) ⟨0,by omega⟩ ?_ ?_
 ·refine z'S rfl ?_
  simp[sub,upd,w'1,tx]
 rintro⟨k,hk⟩
 have s1:=ZcH (l.take k)
 have s2:=Zb6 (l.getD k 0)
 have z2:(#[32]:Array UInt8).size=1:=rfl
 rw[z'y]at s1
 dsimp only at hk⊢
 rcases z'j k l.length with hlt|hge
 ·have hn:=Zo9 ha hlt
  unfold inN at hn
  have c1:=v'3 (l.getD k 0) (by omega)
  repeat' first|refine vs T rfl fun K hK=>?_;(try simp (disch:=omega) only[go_sem,Nat.reduceBEq,Zf2,z'q,w64,w'l]);(first|refine hK _ _ ?_;clear hK K|refine⟨?_,hK _ _ ?_⟩<;>clear hK K;focus(try omega)|refine Op1.callp rfl rfl (c1) rfl ?_;refine hK _ _ ?_;clear hK K)|refine st rfl ?_|refine sc rfl ?_|refine nl ?_|with_reducible refine z'B (fun hc=>?_) (fun hc=>?_)<;>(try simp only[decide_eq_true_eq,decide_eq_false_iff_not,z'F]at hc)<;>(try(exfalso;omega))
  all_goals try(first|omega|(simp only[ByteArray.size_append,w'l];omega)|(simp only[ByteArray.size_append,w'l,ByteArray.size];omega))
  refine⟨⟨k+1,by omega⟩,z'S rfl ?_,by dsimp only;omega⟩
  simp[sub,upd,Zh5,Zpq hlt,ZuK, -List.getD_eq_getElem?_getD]
 ·obtain rfl:k=l.length:=by omega
  repeat' first|refine vs T rfl fun K hK=>?_;(try simp (disch:=omega) only[go_sem,Nat.reduceBEq]);(refine hK _ _ ?_;clear hK K)|refine st rfl ?_|refine sc rfl ?_|refine nl ?_|refine z'A T (z'a _) ?_;(try simp only[upd,Nat.reduceBEq,cond_true,cond_false,and_true])|with_reducible refine z'B (fun hc=>?_) (fun hc=>?_)<;>(try simp only[decide_eq_true_eq,decide_eq_false_iff_not,z'F]at hc)<;>(try(exfalso;omega))
  exact congrArg sD (by rw[z'Y])
def hdT (c:Cf) (k:Nat):By:=v'H c k++(116::(w'L (k:Nat)++58::(w'L (c.pc.getD k 0)++w'1 (c.regs.getD k []))))
theorem Zts (c:Cf) (k:Nat):tx (hdT c k)=tx (v'H c k)++(⟨#[116]⟩++Ze4 (k:Nat)++⟨#[58]⟩++Ze4 (c.pc.getD k 0)++tx (w'1 (c.regs.getD k []))):=by
 rw[hdT,show(116::(w'L (k:Nat)++58::(w'L (c.pc.getD k 0)++w'1 (c.regs.getD k []))))=([116]++w'L (k:Nat)++[58]++w'L (c.pc.getD k 0)++w'1 (c.regs.getD k [])) by simp]
 simp only[Zc9,Zh5]
 rfl
theorem Ztt (c:Cf) (hO:OkC c) (k:Nat):(hdT c k).length≤22000*k+7014:=by
 have h1:=ZfE c hO k
 have h2:=ZcH (c.regs.getD k [])
 have h4:=Zc2 hO.row k
 have h6:=ZaT (k:Nat)
 have h7:=ZaT (c.pc.getD k 0)
 simp only[hdT,z'h,z'u]
 omega
theorem Zrh (c:Cf) (k:Nat):v'H c (k+1)=hdT c k++ZaP (c.bufs.getD k [])++[59,32]:=by
 simp[v'H,Zrg,hdT]
theorem Zri (c:Cf) (k:Nat):tx (v'H c (k+1))=tx (hdT c k++ZaP (c.bufs.getD k []))++⟨#[59,32]⟩:=by rw[Zrh,Zc9];rfl
theorem Zq9 (c:Cf):tx (ZjJ c)=tx (v'H c c.pc.length)++⟨#[109,58]⟩++tx (w'1 c.mem):=by
 rw[ZjJ,show v'H c c.pc.length++(109::58::w'1 c.mem)=v'H c c.pc.length++[109,58]++w'1 c.mem by simp,Zc9,Zc9]
 rfl
theorem Zt1 (s:By) (x y:Int):tx (s++(32::(w'L x++61::w'L y)))=tx s++(⟨#[32]⟩++Ze4 x++⟨#[61]⟩++Ze4 y):=by
 rw[show s++(32::(w'L x++61::w'L y))=s++(([32]++w'L x++[61])++w'L y) by simp]
 simp only[Zc9,Zh5]
 rfl
theorem Zpw (c:Cf) (hO:OkC c):Pure Tryz.prog 97 [.agg (cfC c)] (sD (tx (Zga c))):=by
 have g1:=hO.pc
 have g2:=hO.mem
 have g3:=hO.regs
 have g4:=hO.bufs
 have cr:=ZnT c hO
 refine Fun.of T [.tmp 2] Tryz.func97 rfl Tryz.ntmps97 Tryz.results97 rfl (by kernel_rfl) ?_
 cases hR:ZaE c with
 |false=>
  rw[hR]at cr
  rw[show Zga c=[] by simp[Zga,hR]]
  repeat' first|refine vb (t:=69) rfl rfl rfl rfl ?_|refine vs T rfl fun K hK=>?_;(try simp (disch:=omega) only[go_sem,Nat.reduceBEq,Nat.reduceAdd,Nat.reduceLeDiff,z'O]);(first|refine hK _ _ ?_;clear hK K|refine Op1.callp rfl rfl (cr) rfl ?_;refine hK _ _ ?_;clear hK K)|refine st rfl ?_|refine sc rfl ?_|refine nl ?_|exact z'A T (z'a _) ⟨rfl,rfl⟩
 |true=>
 rw[hR]at cr
 rw[show Zga c=ZjJ c by simp[Zga,hR]]
 obtain⟨r1,r2,r3,r4,r5,r6,r7⟩:=ZeM.1 hR
 repeat' first|refine vb (t:=69) rfl rfl rfl rfl ?_|refine vs T rfl fun K hK=>?_;(try simp (disch:=omega) only[go_sem,Nat.reduceBEq,Nat.reduceAdd,Nat.reduceLeDiff,z'E,z'I]);(first|refine hK _ _ ?_;clear hK K|refine Op1.callp rfl rfl (cr) rfl ?_;refine hK _ _ ?_;clear hK K)|refine st rfl ?_|refine sc rfl ?_|refine nl ?_
 refine VC.loop {k:Nat//k≤c.pc.length} (fun p=>⟨y'd [(1,.pt (cfC c)),(3,sD (tx (v'H c p.1))),(12,y'c c.pc),(13,iD (c.pc.length:Nat)),(14,iD (p.1:Nat))],[]⟩) (fun p=>c.pc.length-p.1) ⟨0,by omega⟩ ?_ ?_
 ·refine z'S rfl ?_
  simp[sub,upd,v'H,tx]
 rintro⟨k,hk⟩
 dsimp only at hk⊢
 have s1:=ZfE c hO k
 have s2:=Zb6 (k:Nat)
 have s3:=Zb6 (c.pc.getD k 0)
 have s4:=ZcH (c.regs.getD k [])
 have s5:=Zc2 hO.row k
 have s6:=Zc2 hO.buf k
 have z1:(#[116]:Array UInt8).size=1:=rfl
 have z2:(#[58]:Array UInt8).size=1:=rfl
 rcases z'j k c.pc.length with hlt|hge
 case inr=>
  obtain rfl:k=c.pc.length:=by omega
  have c1:=Zlo c.mem (by omega) r5
  have s7:=ZcH c.mem
  have z3:(#[109,58]:Array UInt8).size=2:=rfl
  repeat' first|refine vs T rfl fun K hK=>?_;(try simp (disch:=omega) only[go_sem,Nat.reduceBEq,w'l]);(first|refine hK _ _ ?_;clear hK K|refine⟨?_,hK _ _ ?_⟩<;>clear hK K;focus(try omega)|refine Op1.callp rfl rfl (c1) rfl ?_;refine hK _ _ ?_;clear hK K)|refine st rfl ?_|refine sc rfl ?_|refine nl ?_|refine z'A T (z'a _) ?_;(try simp only[upd,Nat.reduceBEq,cond_true,cond_false,and_true])|with_reducible refine z'B (fun hc=>?_) (fun hc=>?_)<;>(try simp only[decide_eq_true_eq,decide_eq_false_iff_not,z'F]at hc)<;>(try(exfalso;omega))
  all_goals try(first|omega|(simp only[ByteArray.size_append,w'l];omega)|(simp only[ByteArray.size_append,w'l,ByteArray.size];omega))
  exact congrArg sD (Zq9 c).symm
 have hn:=Zo9 r4 hlt
 unfold inN at hn
 have c1:=v'3 (k:Nat) (by omega)
 have c2:=v'3 (c.pc.getD k 0) (by omega)
 have c3:=Zlo (c.regs.getD k []) (by omega) (r6 k (by omega))
 repeat' first|refine dr (id:=7) T 15 (by kernel_rfl) ?_|refine gn ?_|apply VCg.step T rfl rfl;focus((try simp (disch:=omega) only[go_sem,Nat.reduceBEq,Ziu,z'q,w'l]);(first|exact rfl|refine⟨?_,rfl⟩;try omega|refine Op1.callp rfl rfl (c1) rfl ?_;exact⟨rfl,rfl⟩|refine Op1.callp rfl rfl (c2) rfl ?_;exact⟨rfl,rfl⟩|refine Op1.callp rfl rfl (c3) rfl ?_;exact⟨rfl,rfl⟩))|refine vs T rfl fun K hK=>?_;(try simp (disch:=omega) only[go_sem,Nat.reduceBEq,Zf2,Zmw,z'7,z'q,w'l]);(first|refine hK _ _ ?_;clear hK K|refine⟨?_,hK _ _ ?_⟩<;>clear hK K;focus(try omega))|refine st rfl ?_|refine sc rfl ?_|refine nl ?_|with_reducible refine z'B (fun hc=>?_) (fun hc=>?_)<;>(try simp only[decide_eq_true_eq,decide_eq_false_iff_not,z'F]at hc)<;>(try(exfalso;omega))
 all_goals try(first|omega|(simp only[ByteArray.size_append,w'l];omega)|(simp only[ByteArray.size_append,w'l,ByteArray.size];omega))
 clear c1 c2 c3
 have s7:=Ztt c hO k
 refine VC.loop {j:Nat//j≤(c.bufs.getD k []).length} (fun p=>⟨y'd [(1,.pt (cfC c)),(3,sD (tx (hdT c k++ZaP ((c.bufs.getD k []).take p.1)))),(12,y'c c.pc),(13,iD (c.pc.length:Nat)),(14,iD (k:Nat)),(39,buf (c.bufs.getD k [])),(40,iD ((c.bufs.getD k []).length:Nat)),(41,iD (p.1:Nat))],[]⟩) (fun p=>(c.bufs.getD k []).length-p.1) ⟨0,by omega⟩ ?_ ?_
 ·refine z'S rfl ?_
  simp[sub,upd,ZaP,Zts, -List.getD_eq_getElem?_getD]
 rintro⟨j,hj⟩
 dsimp only at hj⊢
 have s8:=Zh8 ((c.bufs.getD k []).take j)
 rw[z'y]at s8
 have s9:=Zb6 ((c.bufs.getD k []).getD j (0,0)).1
 have s10:=Zb6 ((c.bufs.getD k []).getD j (0,0)).2
 have z4:(#[32]:Array UInt8).size=1:=rfl
 have z5:(#[61]:Array UInt8).size=1:=rfl
 have z6:(#[59,32]:Array UInt8).size=2:=rfl
 rcases z'j j (c.bufs.getD k []).length with hjt|hge
 case inr=>
  obtain rfl:j=(c.bufs.getD k []).length:=by omega
  repeat' first|refine vs T rfl fun K hK=>?_;(try simp (disch:=omega) only[go_sem,Nat.reduceBEq,w64,w'l]);(first|refine hK _ _ ?_;clear hK K|refine⟨?_,hK _ _ ?_⟩<;>clear hK K)|refine st rfl ?_|refine sc rfl ?_|refine nl ?_|with_reducible refine z'B (fun hc=>?_) (fun hc=>?_)<;>(try simp only[decide_eq_true_eq,decide_eq_false_iff_not,z'F]at hc)<;>(try(exfalso;omega))
  all_goals try(first|omega|(simp only[w'l,z'h,ByteArray.size];omega))
  refine⟨⟨k+1,by omega⟩,z'S rfl ?_,by dsimp only;omega⟩
  simp[sub,upd,Zri, -List.getD_eq_getElem?_getD]
 have he:=r7 k (by omega) j hjt
 simp only[Ze5,z'c,Zf9,inN]at he
 have c1:=v'3 ((c.bufs.getD k []).getD j (0,0)).1 (by omega)
 have c2:=v'3 ((c.bufs.getD k []).getD j (0,0)).2 (by omega)
 repeat' first|refine dr (id:=11) T 10 (by kernel_rfl) ?_|refine gn ?_|apply VCg.step T rfl rfl;focus((try simp (disch:=omega) only[go_sem,Nat.reduceBEq]);(first|exact rfl|refine⟨?_,rfl⟩;try omega|refine Op1.callp rfl rfl (c1) rfl ?_;exact⟨rfl,rfl⟩|refine Op1.callp rfl rfl (c2) rfl ?_;exact⟨rfl,rfl⟩))|refine vs T rfl fun K hK=>?_;(try simp (disch:=omega) only[go_sem,Nat.reduceBEq,Nat.reduceAdd,Nat.reduceLeDiff,ZkO,eR,z'q,w64,w'l]);(first|refine hK _ _ ?_;clear hK K|intro bq hbq;(try simp only[HB]at hbq);refine hK _ _ ?_;clear hK K|refine⟨?_,hK _ _ ?_⟩<;>clear hK K;focus(try omega))|refine st rfl ?_|refine sc rfl ?_|refine nl ?_|with_reducible refine z'B (fun hc=>?_) (fun hc=>?_)<;>(try simp only[decide_eq_true_eq,decide_eq_false_iff_not,z'F]at hc)<;>(try(exfalso;omega))
 all_goals try(first|omega|(simp only[ByteArray.size_append,w'l,z'h];omega)|(simp only[ByteArray.size_append,w'l,z'h,ByteArray.size];omega))
 refine⟨⟨j+1,by omega⟩,x'g rfl ?_,by dsimp only;omega⟩
 simp[sub,upd,Zow hjt, ←List.append_assoc,Zt1, -List.getD_eq_getElem?_getD]
def hd0 (c:Cf) (k:Nat):By:=v'H c k++(116::(w'L (k:Nat)++58::w'L (c.pc.getD k 0)))
end Go.Proofs.YthlkpnjjkgmlkaaGreat
