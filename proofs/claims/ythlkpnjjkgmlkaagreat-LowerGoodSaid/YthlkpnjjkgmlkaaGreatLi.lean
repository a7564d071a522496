/- Contracts: the reference's statements, second half. No condition. -/
import Derived.Test.YthlkpnjjkgmlkaaGreatLf
namespace Go.Proofs.YthlkpnjjkgmlkaaGreat
set_option maxHeartbeats 16000000
set_option linter.unusedSimpArgs false
set_option linter.unusedVariables false
set_option maxRecDepth 20000
open Go Go.Proofs Go.Vc
attribute [local irreducible] x'r VCg VCw VCx
theorem ZkB (x:Sm) (hk:w'q x.kind=some ⟨#[114,108,101]⟩) (he:x.e.length≤1000) (hf:x.f.length≤1000):Pure Tryz.prog 236 [.agg (smR x)] (bD (v'e ⟨#[114,108,101]⟩ x)):=by
 have c0:=w'x x.kind
 rw[hk]at c0
 have b1:Pure Tryz.prog 267 [sD ⟨#[114,108,101]⟩,.is (.int .u8 114)] (bD true):=z'Y ⟨#[114,108,101]⟩ (by decide) 114
 have b2:Pure Tryz.prog 267 [sD ⟨#[114,108,101]⟩,.is (.int .u8 108)] (bD true):=z'Y ⟨#[114,108,101]⟩ (by decide) 108
 have b3:Pure Tryz.prog 267 [sD ⟨#[114,108,101]⟩,.is (.int .u8 101)] (bD true):=z'Y ⟨#[114,108,101]⟩ (by decide) 101
 have b4:Pure Tryz.prog 267 [sD ⟨#[114,108,101]⟩,.is (.int .u8 102)] (bD false):=z'Y ⟨#[114,108,101]⟩ (by decide) 102
 have b5:Pure Tryz.prog 267 [sD ⟨#[114,108,101]⟩,.is (.int .u8 110)] (bD false):=z'Y ⟨#[114,108,101]⟩ (by decide) 110
 have b6:Pure Tryz.prog 267 [sD ⟨#[114,108,101]⟩,.is (.int .u8 98)] (bD false):=z'Y ⟨#[114,108,101]⟩ (by decide) 98
 have b7:Pure Tryz.prog 267 [sD ⟨#[114,108,101]⟩,.is (.int .u8 120)] (bD false):=z'Y ⟨#[114,108,101]⟩ (by decide) 120
 have n1:=y'7 x.reg
 have n2:=y'7 x.loc
 have q1:=x'l x.e he
 have q2:=x'l x.f hf
 have d1:decide (x.reg=e0)=isE x.reg:=rfl
 have d2:decide (x.loc=e0)=isE x.loc:=rfl
 have h114:z'S ⟨#[114,108,101]⟩ 114=true:=by decide
 have h108:z'S ⟨#[114,108,101]⟩ 108=true:=by decide
 have h101:z'S ⟨#[114,108,101]⟩ 101=true:=by decide
 have h102:z'S ⟨#[114,108,101]⟩ 102=false:=by decide
 have h110:z'S ⟨#[114,108,101]⟩ 110=false:=by decide
 have h98:z'S ⟨#[114,108,101]⟩ 98=false:=by decide
 have h120:z'S ⟨#[114,108,101]⟩ 120=false:=by decide
 refine Fun.of T [.tmp 2] Tryz.func236 rfl Tryz.ntmps236 Tryz.results236 rfl (by kernel_rfl) ?_
 repeat' first|refine vb rfl rfl rfl rfl ?_|refine dr (id:=4) T 21 (by kernel_rfl) ?_|refine gn ?_|(first|apply VCg.step T rfl rfl|apply exF);focus((try simp (disch:=omega) only[go_sem,Nat.reduceBEq,z'H]);(first|exact rfl|refine Op1.callp rfl rfl (b1) rfl ?_;exact⟨rfl,rfl⟩|refine Op1.callp rfl rfl (b2) rfl ?_;exact⟨rfl,rfl⟩|refine Op1.callp rfl rfl (n1) rfl ?_;exact⟨rfl,rfl⟩))|refine VCg.gstep T rfl rfl rfl rfl ?_;try simp only[GB]|refine VCg.gundef T rfl rfl rfl rfl ?_|refine vs T rfl fun K hK=>?_;(try simp (disch:=omega) only[go_sem,Nat.reduceBEq,smR,Zav,Option.isSome_some,z'B,z'H,z'P,z'Z]);(first|refine hK _ _ ?_;clear hK K|refine Op1.callp rfl rfl (c0) rfl ?_;refine hK _ _ ?_;clear hK K|refine Op1.callp rfl rfl (b2) rfl ?_;refine hK _ _ ?_;clear hK K|refine Op1.callp rfl rfl (b3) rfl ?_;refine hK _ _ ?_;clear hK K|refine Op1.callp rfl rfl (b4) rfl ?_;refine hK _ _ ?_;clear hK K|refine Op1.callp rfl rfl (b5) rfl ?_;refine hK _ _ ?_;clear hK K|refine Op1.callp rfl rfl (b6) rfl ?_;refine hK _ _ ?_;clear hK K|refine Op1.callp rfl rfl (b7) rfl ?_;refine hK _ _ ?_;clear hK K|refine Op1.callp rfl rfl (n2) rfl ?_;refine hK _ _ ?_;clear hK K|refine Op1.callp rfl rfl (q1) rfl ?_;refine hK _ _ ?_;clear hK K)|refine st rfl ?_|refine sc rfl ?_|refine nl ?_|refine gs rfl rfl ?_|refine gu rfl rfl ?_|refine z'r T (z'a _) ?_;(try simp only[upd,Nat.reduceBEq,cond_true,cond_false,and_true])|with_reducible refine z'j (fun hc=>?_) (fun hc=>?_)<;>(try simp only[decide_eq_true_eq,decide_eq_false_iff_not,beq_iff_eq,beq_eq_false_iff_ne,bne_iff_ne,bne_eq_false_iff_eq,ne_eq,z'y,z'G,gt_iff_lt,z'x]at hc)
 all_goals
  clear c0 b1 b2 b3 b4 b5 b6 b7 n1 n2 q1 q2 d1 d2
  unfold v'e
  rw[h114,h108,h101,h102,h110,h98,h120]
  first|(simp_all;done)|(simp_all;omega)|(simp_all;rfl)|(simp_all;intros;simp_all)
theorem ZpY (x:Sm) (hk:w'q x.kind=some ⟨#[108,101,110]⟩) (he:x.e.length≤1000) (hf:x.f.length≤1000):Pure Tryz.prog 236 [.agg (smR x)] (bD (v'e ⟨#[108,101,110]⟩ x)):=by
 have c0:=w'x x.kind
 rw[hk]at c0
 have b1:Pure Tryz.prog 267 [sD ⟨#[108,101,110]⟩,.is (.int .u8 114)] (bD false):=z'Y ⟨#[108,101,110]⟩ (by decide) 114
 have b2:Pure Tryz.prog 267 [sD ⟨#[108,101,110]⟩,.is (.int .u8 108)] (bD true):=z'Y ⟨#[108,101,110]⟩ (by decide) 108
 have b3:Pure Tryz.prog 267 [sD ⟨#[108,101,110]⟩,.is (.int .u8 101)] (bD true):=z'Y ⟨#[108,101,110]⟩ (by decide) 101
 have b4:Pure Tryz.prog 267 [sD ⟨#[108,101,110]⟩,.is (.int .u8 102)] (bD false):=z'Y ⟨#[108,101,110]⟩ (by decide) 102
 have b5:Pure Tryz.prog 267 [sD ⟨#[108,101,110]⟩,.is (.int .u8 110)] (bD true):=z'Y ⟨#[108,101,110]⟩ (by decide) 110
 have b6:Pure Tryz.prog 267 [sD ⟨#[108,101,110]⟩,.is (.int .u8 98)] (bD false):=z'Y ⟨#[108,101,110]⟩ (by decide) 98
 have b7:Pure Tryz.prog 267 [sD ⟨#[108,101,110]⟩,.is (.int .u8 120)] (bD false):=z'Y ⟨#[108,101,110]⟩ (by decide) 120
 have n1:=y'7 x.reg
 have n2:=y'7 x.loc
 have q1:=x'l x.e he
 have q2:=x'l x.f hf
 have d1:decide (x.reg=e0)=isE x.reg:=rfl
 have d2:decide (x.loc=e0)=isE x.loc:=rfl
 have h114:z'S ⟨#[108,101,110]⟩ 114=false:=by decide
 have h108:z'S ⟨#[108,101,110]⟩ 108=true:=by decide
 have h101:z'S ⟨#[108,101,110]⟩ 101=true:=by decide
 have h102:z'S ⟨#[108,101,110]⟩ 102=false:=by decide
 have h110:z'S ⟨#[108,101,110]⟩ 110=true:=by decide
 have h98:z'S ⟨#[108,101,110]⟩ 98=false:=by decide
 have h120:z'S ⟨#[108,101,110]⟩ 120=false:=by decide
 refine Fun.of T [.tmp 2] Tryz.func236 rfl Tryz.ntmps236 Tryz.results236 rfl (by kernel_rfl) ?_
 repeat' first|refine vb rfl rfl rfl rfl ?_|refine dr (id:=4) T 21 (by kernel_rfl) ?_|refine gn ?_|(first|apply VCg.step T rfl rfl|apply exF);focus((try simp (disch:=omega) only[go_sem,Nat.reduceBEq,z'P,d1]);(first|exact rfl|refine Op1.callp rfl rfl (b1) rfl ?_;exact⟨rfl,rfl⟩|refine Op1.callp rfl rfl (b2) rfl ?_;exact⟨rfl,rfl⟩|refine Op1.callp rfl rfl (n1) rfl ?_;exact⟨rfl,rfl⟩))|refine VCg.gstep T rfl rfl rfl rfl ?_;try simp only[GB]|refine VCg.gundef T rfl rfl rfl rfl ?_|refine vs T rfl fun K hK=>?_;(try simp (disch:=omega) only[go_sem,Nat.reduceBEq,smR,Zav,Option.isSome_some,z'B,z'H,z'P,z'Z]);(first|refine hK _ _ ?_;clear hK K|refine Op1.callp rfl rfl (c0) rfl ?_;refine hK _ _ ?_;clear hK K|refine Op1.callp rfl rfl (b2) rfl ?_;refine hK _ _ ?_;clear hK K|refine Op1.callp rfl rfl (b3) rfl ?_;refine hK _ _ ?_;clear hK K|refine Op1.callp rfl rfl (b4) rfl ?_;refine hK _ _ ?_;clear hK K|refine Op1.callp rfl rfl (b5) rfl ?_;refine hK _ _ ?_;clear hK K|refine Op1.callp rfl rfl (b6) rfl ?_;refine hK _ _ ?_;clear hK K|refine Op1.callp rfl rfl (b7) rfl ?_;refine hK _ _ ?_;clear hK K|refine Op1.callp rfl rfl (n2) rfl ?_;refine hK _ _ ?_;clear hK K|refine Op1.callp rfl rfl (q1) rfl ?_;refine hK _ _ ?_;clear hK K)|refine st rfl ?_|refine sc rfl ?_|refine nl ?_|refine gs rfl rfl ?_|refine gu rfl rfl ?_|refine z'r T (z'a _) ?_;(try simp only[upd,Nat.reduceBEq,cond_true,cond_false,and_true])|with_reducible refine z'j (fun hc=>?_) (fun hc=>?_)<;>(try simp only[decide_eq_true_eq,decide_eq_false_iff_not,beq_iff_eq,beq_eq_false_iff_ne,bne_iff_ne,bne_eq_false_iff_eq,ne_eq,z'y,z'G,gt_iff_lt,z'x]at hc)
 all_goals
  clear c0 b1 b2 b3 b4 b5 b6 b7 n1 n2 q1 q2 d1 d2
  unfold v'e
  rw[h114,h108,h101,h102,h110,h98,h120]
  first|(simp_all;done)|(simp_all;omega)|(simp_all;rfl)|(simp_all;intros;simp_all)
theorem ZpX (x:Sm) (hk:w'q x.kind=some ⟨#[101,98,120]⟩) (he:x.e.length≤1000) (hf:x.f.length≤1000):Pure Tryz.prog 236 [.agg (smR x)] (bD (v'e ⟨#[101,98,120]⟩ x)):=by
 have c0:=w'x x.kind
 rw[hk]at c0
 have b1:Pure Tryz.prog 267 [sD ⟨#[101,98,120]⟩,.is (.int .u8 114)] (bD false):=z'Y ⟨#[101,98,120]⟩ (by decide) 114
 have b2:Pure Tryz.prog 267 [sD ⟨#[101,98,120]⟩,.is (.int .u8 108)] (bD false):=z'Y ⟨#[101,98,120]⟩ (by decide) 108
 have b3:Pure Tryz.prog 267 [sD ⟨#[101,98,120]⟩,.is (.int .u8 101)] (bD true):=z'Y ⟨#[101,98,120]⟩ (by decide) 101
 have b4:Pure Tryz.prog 267 [sD ⟨#[101,98,120]⟩,.is (.int .u8 102)] (bD false):=z'Y ⟨#[101,98,120]⟩ (by decide) 102
 have b5:Pure Tryz.prog 267 [sD ⟨#[101,98,120]⟩,.is (.int .u8 110)] (bD false):=z'Y ⟨#[101,98,120]⟩ (by decide) 110
 have b6:Pure Tryz.prog 267 [sD ⟨#[101,98,120]⟩,.is (.int .u8 98)] (bD true):=z'Y ⟨#[101,98,120]⟩ (by decide) 98
 have b7:Pure Tryz.prog 267 [sD ⟨#[101,98,120]⟩,.is (.int .u8 120)] (bD true):=z'Y ⟨#[101,98,120]⟩ (by decide) 120
 have n1:=y'7 x.reg
 have n2:=y'7 x.loc
 have q1:=x'l x.e he
 have q2:=x'l x.f hf
 have d1:decide (x.reg=e0)=isE x.reg:=rfl
 have d2:decide (x.loc=e0)=isE x.loc:=rfl
 have h114:z'S ⟨#[101,98,120]⟩ 114=false:=by decide
 have h108:z'S ⟨#[101,98,120]⟩ 108=false:=by decide
 have h101:z'S ⟨#[101,98,120]⟩ 101=true:=by decide
 have h102:z'S ⟨#[101,98,120]⟩ 102=false:=by decide
 have h110:z'S ⟨#[101,98,120]⟩ 110=false:=by decide
 have h98:z'S ⟨#[101,98,120]⟩ 98=true:=by decide
 have h120:z'S ⟨#[101,98,120]⟩ 120=true:=by decide
 refine Fun.of T [.tmp 2] Tryz.func236 rfl Tryz.ntmps236 Tryz.results236 rfl (by kernel_rfl) ?_
 repeat' first|refine vb rfl rfl rfl rfl ?_|refine dr (id:=4) T 21 (by kernel_rfl) ?_|refine gn ?_|(first|apply VCg.step T rfl rfl|apply exF);focus((try simp (disch:=omega) only[go_sem,Nat.reduceBEq,z'P,d1]);(first|exact rfl|refine Op1.callp rfl rfl (b1) rfl ?_;exact⟨rfl,rfl⟩|refine Op1.callp rfl rfl (b2) rfl ?_;exact⟨rfl,rfl⟩|refine Op1.callp rfl rfl (n1) rfl ?_;exact⟨rfl,rfl⟩))|refine VCg.gstep T rfl rfl rfl rfl ?_;try simp only[GB]|refine VCg.gundef T rfl rfl rfl rfl ?_|refine vs T rfl fun K hK=>?_;(try simp (disch:=omega) only[go_sem,Nat.reduceBEq,smR,Zav,Option.isSome_some,z'B,z'H,z'P,d2,z'Z]);(first|refine hK _ _ ?_;clear hK K|refine Op1.callp rfl rfl (c0) rfl ?_;refine hK _ _ ?_;clear hK K|refine Op1.callp rfl rfl (b2) rfl ?_;refine hK _ _ ?_;clear hK K|refine Op1.callp rfl rfl (b3) rfl ?_;refine hK _ _ ?_;clear hK K|refine Op1.callp rfl rfl (b4) rfl ?_;refine hK _ _ ?_;clear hK K|refine Op1.callp rfl rfl (b5) rfl ?_;refine hK _ _ ?_;clear hK K|refine Op1.callp rfl rfl (b6) rfl ?_;refine hK _ _ ?_;clear hK K|refine Op1.callp rfl rfl (b7) rfl ?_;refine hK _ _ ?_;clear hK K|refine Op1.callp rfl rfl (n2) rfl ?_;refine hK _ _ ?_;clear hK K|refine Op1.callp rfl rfl (q1) rfl ?_;refine hK _ _ ?_;clear hK K)|refine st rfl ?_|refine sc rfl ?_|refine nl ?_|refine gs rfl rfl ?_|refine gu rfl rfl ?_|refine z'r T (z'a _) ?_;(try simp only[upd,Nat.reduceBEq,cond_true,cond_false,and_true])|with_reducible refine z'j (fun hc=>?_) (fun hc=>?_)<;>(try simp only[decide_eq_true_eq,decide_eq_false_iff_not,bne_iff_ne,bne_eq_false_iff_eq,ne_eq,z'y,z'G,gt_iff_lt,z'x]at hc)
 all_goals
  clear c0 b1 b2 b3 b4 b5 b6 b7 n1 n2 q1 q2 d1 d2
  unfold v'e
  rw[h114,h108,h101,h102,h110,h98,h120]
  first|(simp_all;done)|(simp_all;omega)|(simp_all;rfl)|(simp_all;intros;simp_all)
theorem Zrz (x:Sm) (hk:w'q x.kind=some ⟨#[101,98]⟩) (he:x.e.length≤1000) (hf:x.f.length≤1000):Pure Tryz.prog 236 [.agg (smR x)] (bD (v'e ⟨#[101,98]⟩ x)):=by
 have c0:=w'x x.kind
 rw[hk]at c0
 have b1:Pure Tryz.prog 267 [sD ⟨#[101,98]⟩,.is (.int .u8 114)] (bD false):=z'Y ⟨#[101,98]⟩ (by decide) 114
 have b2:Pure Tryz.prog 267 [sD ⟨#[101,98]⟩,.is (.int .u8 108)] (bD false):=z'Y ⟨#[101,98]⟩ (by decide) 108
 have b3:Pure Tryz.prog 267 [sD ⟨#[101,98]⟩,.is (.int .u8 101)] (bD true):=z'Y ⟨#[101,98]⟩ (by decide) 101
 have b4:Pure Tryz.prog 267 [sD ⟨#[101,98]⟩,.is (.int .u8 102)] (bD false):=z'Y ⟨#[101,98]⟩ (by decide) 102
 have b5:Pure Tryz.prog 267 [sD ⟨#[101,98]⟩,.is (.int .u8 110)] (bD false):=z'Y ⟨#[101,98]⟩ (by decide) 110
 have b6:Pure Tryz.prog 267 [sD ⟨#[101,98]⟩,.is (.int .u8 98)] (bD true):=z'Y ⟨#[101,98]⟩ (by decide) 98
 have b7:Pure Tryz.prog 267 [sD ⟨#[101,98]⟩,.is (.int .u8 120)] (bD false):=z'Y ⟨#[101,98]⟩ (by decide) 120
 have n1:=y'7 x.reg
 have n2:=y'7 x.loc
 have q1:=x'l x.e he
 have q2:=x'l x.f hf
 have d1:decide (x.reg=e0)=isE x.reg:=rfl
 have d2:decide (x.loc=e0)=isE x.loc:=rfl
 have h114:z'S ⟨#[101,98]⟩ 114=false:=by decide
 have h108:z'S ⟨#[101,98]⟩ 108=false:=by decide
 have h101:z'S ⟨#[101,98]⟩ 101=true:=by decide
 have h102:z'S ⟨#[101,98]⟩ 102=false:=by decide
 have h110:z'S ⟨#[101,98]⟩ 110=false:=by decide
 have h98:z'S ⟨#[101,98]⟩ 98=true:=by decide
 have h120:z'S ⟨#[101,98]⟩ 120=false:=by decide
 refine Fun.of T [.tmp 2] Tryz.func236 rfl Tryz.ntmps236 Tryz.results236 rfl (by kernel_rfl) ?_
 repeat' first|refine vb rfl rfl rfl rfl ?_|refine dr (id:=4) T 21 (by kernel_rfl) ?_|refine gn ?_|(first|apply VCg.step T rfl rfl|apply exF);focus((try simp (disch:=omega) only[go_sem,Nat.reduceBEq,z'P,d1]);(first|exact rfl|refine Op1.callp rfl rfl (b1) rfl ?_;exact⟨rfl,rfl⟩|refine Op1.callp rfl rfl (b2) rfl ?_;exact⟨rfl,rfl⟩|refine Op1.callp rfl rfl (n1) rfl ?_;exact⟨rfl,rfl⟩))|refine VCg.gstep T rfl rfl rfl rfl ?_;try simp only[GB]|refine VCg.gundef T rfl rfl rfl rfl ?_|refine vs T rfl fun K hK=>?_;(try simp (disch:=omega) only[go_sem,Nat.reduceBEq,smR,Zav,Option.isSome_some,z'B,z'H,z'P,d2,z'Z]);(first|refine hK _ _ ?_;clear hK K|refine Op1.callp rfl rfl (c0) rfl ?_;refine hK _ _ ?_;clear hK K|refine Op1.callp rfl rfl (b2) rfl ?_;refine hK _ _ ?_;clear hK K|refine Op1.callp rfl rfl (b3) rfl ?_;refine hK _ _ ?_;clear hK K|refine Op1.callp rfl rfl (b4) rfl ?_;refine hK _ _ ?_;clear hK K|refine Op1.callp rfl rfl (b5) rfl ?_;refine hK _ _ ?_;clear hK K|refine Op1.callp rfl rfl (b6) rfl ?_;refine hK _ _ ?_;clear hK K|refine Op1.callp rfl rfl (b7) rfl ?_;refine hK _ _ ?_;clear hK K|refine Op1.callp rfl rfl (n2) rfl ?_;refine hK _ _ ?_;clear hK K|refine Op1.callp rfl rfl (q1) rfl ?_;refine hK _ _ ?_;clear hK K)|refine st rfl ?_|refine sc rfl ?_|refine nl ?_|refine gs rfl rfl ?_|refine gu rfl rfl ?_|refine z'r T (z'a _) ?_;(try simp only[upd,Nat.reduceBEq,cond_true,cond_false,and_true])|with_reducible refine z'j (fun hc=>?_) (fun hc=>?_)<;>(try simp only[decide_eq_true_eq,decide_eq_false_iff_not,bne_iff_ne,bne_eq_false_iff_eq,ne_eq,z'y,z'G,gt_iff_lt,z'x]at hc)
 all_goals
  clear c0 b1 b2 b3 b4 b5 b6 b7 n1 n2 q1 q2 d1 d2
  unfold v'e
  rw[h114,h108,h101,h102,h110,h98,h120]
  first|(simp_all;done)|(simp_all;omega)|(simp_all;rfl)|(simp_all;intros;simp_all)
theorem ZsN (x:Sm) (hk:w'q x.kind=some ⟨#[98]⟩) (he:x.e.length≤1000) (hf:x.f.length≤1000):Pure Tryz.prog 236 [.agg (smR x)] (bD (v'e ⟨#[98]⟩ x)):=by
 have c0:=w'x x.kind
 rw[hk]at c0
 have b1:Pure Tryz.prog 267 [sD ⟨#[98]⟩,.is (.int .u8 114)] (bD false):=z'Y ⟨#[98]⟩ (by decide) 114
 have b2:Pure Tryz.prog 267 [sD ⟨#[98]⟩,.is (.int .u8 108)] (bD false):=z'Y ⟨#[98]⟩ (by decide) 108
 have b3:Pure Tryz.prog 267 [sD ⟨#[98]⟩,.is (.int .u8 101)] (bD false):=z'Y ⟨#[98]⟩ (by decide) 101
 have b4:Pure Tryz.prog 267 [sD ⟨#[98]⟩,.is (.int .u8 102)] (bD false):=z'Y ⟨#[98]⟩ (by decide) 102
 have b5:Pure Tryz.prog 267 [sD ⟨#[98]⟩,.is (.int .u8 110)] (bD false):=z'Y ⟨#[98]⟩ (by decide) 110
 have b6:Pure Tryz.prog 267 [sD ⟨#[98]⟩,.is (.int .u8 98)] (bD true):=z'Y ⟨#[98]⟩ (by decide) 98
 have b7:Pure Tryz.prog 267 [sD ⟨#[98]⟩,.is (.int .u8 120)] (bD false):=z'Y ⟨#[98]⟩ (by decide) 120
 have n1:=y'7 x.reg
 have n2:=y'7 x.loc
 have q1:=x'l x.e he
 have q2:=x'l x.f hf
 have d1:decide (x.reg=e0)=isE x.reg:=rfl
 have d2:decide (x.loc=e0)=isE x.loc:=rfl
 have h114:z'S ⟨#[98]⟩ 114=false:=by decide
 have h108:z'S ⟨#[98]⟩ 108=false:=by decide
 have h101:z'S ⟨#[98]⟩ 101=false:=by decide
 have h102:z'S ⟨#[98]⟩ 102=false:=by decide
 have h110:z'S ⟨#[98]⟩ 110=false:=by decide
 have h98:z'S ⟨#[98]⟩ 98=true:=by decide
 have h120:z'S ⟨#[98]⟩ 120=false:=by decide
 refine Fun.of T [.tmp 2] Tryz.func236 rfl Tryz.ntmps236 Tryz.results236 rfl (by kernel_rfl) ?_
 repeat' first|refine vb rfl rfl rfl rfl ?_|refine dr (id:=4) T 21 (by kernel_rfl) ?_|refine gn ?_|(first|apply VCg.step T rfl rfl|apply exF);focus((try simp (disch:=omega) only[go_sem,Nat.reduceBEq,z'P,d1]);(first|exact rfl|refine Op1.callp rfl rfl (b1) rfl ?_;exact⟨rfl,rfl⟩|refine Op1.callp rfl rfl (b2) rfl ?_;exact⟨rfl,rfl⟩|refine Op1.callp rfl rfl (n1) rfl ?_;exact⟨rfl,rfl⟩))|refine VCg.gstep T rfl rfl rfl rfl ?_;try simp only[GB]|refine VCg.gundef T rfl rfl rfl rfl ?_|refine vs T rfl fun K hK=>?_;(try simp (disch:=omega) only[go_sem,Nat.reduceBEq,smR,Zav,Option.isSome_some,z'B,z'H,z'P,d2,z'Z]);(first|refine hK _ _ ?_;clear hK K|refine Op1.callp rfl rfl (c0) rfl ?_;refine hK _ _ ?_;clear hK K|refine Op1.callp rfl rfl (b2) rfl ?_;refine hK _ _ ?_;clear hK K|refine Op1.callp rfl rfl (b3) rfl ?_;refine hK _ _ ?_;clear hK K|refine Op1.callp rfl rfl (b4) rfl ?_;refine hK _ _ ?_;clear hK K|refine Op1.callp rfl rfl (b5) rfl ?_;refine hK _ _ ?_;clear hK K|refine Op1.callp rfl rfl (b6) rfl ?_;refine hK _ _ ?_;clear hK K|refine Op1.callp rfl rfl (b7) rfl ?_;refine hK _ _ ?_;clear hK K|refine Op1.callp rfl rfl (n2) rfl ?_;refine hK _ _ ?_;clear hK K)|refine st rfl ?_|refine sc rfl ?_|refine nl ?_|refine gs rfl rfl ?_|refine gu rfl rfl ?_|refine z'r T (z'a _) ?_;(try simp only[upd,Nat.reduceBEq,cond_true,cond_false,and_true])|with_reducible refine z'j (fun hc=>?_) (fun hc=>?_)<;>(try simp only[decide_eq_true_eq,decide_eq_false_iff_not,bne_iff_ne,bne_eq_false_iff_eq,ne_eq,z'y,z'G,gt_iff_lt,z'x]at hc)
 all_goals
  clear c0 b1 b2 b3 b4 b5 b6 b7 n1 n2 q1 q2 d1 d2
  unfold v'e
  rw[h114,h108,h101,h102,h110,h98,h120]
  first|(simp_all;done)|(simp_all;omega)|(simp_all;rfl)|(simp_all;intros;simp_all)
theorem Zog {x:Sm} {p:ByteArray} (h:w'q x.kind=some p):x'0 x=v'e p x:=by unfold x'0;rw[h];rfl
theorem ZrB (x:Sm) (he:x.e.length≤1000) (hf:x.f.length≤1000):Pure Tryz.prog 236 [.agg (smR x)] (bD (x'0 x)):=by
 cases hp:w'q x.kind with
 |none=>
  have c0:=w'x x.kind
  rw[hp]at c0
  rw[show x'0 x=false by unfold x'0;rw[hp]]
  refine Fun.of T [.tmp 2] Tryz.func236 rfl Tryz.ntmps236 Tryz.results236 rfl (by kernel_rfl) ?_
  repeat' first|refine vb rfl rfl rfl rfl ?_|refine vs T rfl fun K hK=>?_;(try simp (disch:=omega) only[go_sem,Nat.reduceBEq,smR,Zav,Option.isSome_none,z'P]);(first|refine hK _ _ ?_;clear hK K|refine Op1.callp rfl rfl (c0) rfl ?_;refine hK _ _ ?_;clear hK K)|refine st rfl ?_|refine sc rfl ?_|refine nl ?_|refine gs rfl rfl ?_|exact z'r T (z'a _) ⟨rfl,rfl⟩
 |some p=>
  rw[Zog hp]
  have hq:=hp
  rw[w'q]at hq
  by_cases k1:x.kind=1
  ·rw[if_pos k1]at hq
   obtain rfl:=z'W hq
   exact ZkA x hp he hf
  by_cases k2:x.kind=2
  ·rw[if_neg k1,if_pos k2]at hq
   obtain rfl:=z'W hq
   exact ZrC x hp he hf
  by_cases k3:x.kind=3
  ·rw[if_neg k1,if_neg k2,if_pos k3]at hq
   obtain rfl:=z'W hq
   exact ZrD x hp he hf
  by_cases k4:x.kind=4
  ·rw[if_neg k1,if_neg k2,if_neg k3,if_pos k4]at hq
   obtain rfl:=z'W hq
   exact ZrA x hp he hf
  by_cases k5:x.kind=5
  ·rw[if_neg k1,if_neg k2,if_neg k3,if_neg k4,if_pos k5]at hq
   obtain rfl:=z'W hq
   exact Zoe x hp he hf
  by_cases k6:x.kind=6
  ·rw[if_neg k1,if_neg k2,if_neg k3,if_neg k4,if_neg k5,if_pos k6]at hq
   obtain rfl:=z'W hq
   exact ZkB x hp he hf
  by_cases k7:x.kind=7
  ·rw[if_neg k1,if_neg k2,if_neg k3,if_neg k4,if_neg k5,if_neg k6,if_pos k7]at hq
   obtain rfl:=z'W hq
   exact ZkB x hp he hf
  by_cases k8:x.kind=8
  ·rw[if_neg k1,if_neg k2,if_neg k3,if_neg k4,if_neg k5,if_neg k6,if_neg k7,if_pos k8]at hq
   obtain rfl:=z'W hq
   exact ZkA x hp he hf
  by_cases k9:x.kind=9
  ·rw[if_neg k1,if_neg k2,if_neg k3,if_neg k4,if_neg k5,if_neg k6,if_neg k7,if_neg k8,if_pos k9]at hq
   obtain rfl:=z'W hq
   exact ZpY x hp he hf
  by_cases k10:x.kind=10
  ·rw[if_neg k1,if_neg k2,if_neg k3,if_neg k4,if_neg k5,if_neg k6,if_neg k7,if_neg k8,if_neg k9,if_pos k10]at hq
   obtain rfl:=z'W hq
   exact ZpX x hp he hf
  by_cases k11:x.kind=11
  ·rw[if_neg k1,if_neg k2,if_neg k3,if_neg k4,if_neg k5,if_neg k6,if_neg k7,if_neg k8,if_neg k9,if_neg k10,if_pos k11]at hq
   obtain rfl:=z'W hq
   exact Zrz x hp he hf
  by_cases k12:x.kind=12
  ·rw[if_neg k1,if_neg k2,if_neg k3,if_neg k4,if_neg k5,if_neg k6,if_neg k7,if_neg k8,if_neg k9,if_neg k10,if_neg k11,if_pos k12]at hq
   obtain rfl:=z'W hq
   exact ZsN x hp he hf
  by_cases k13:x.kind=13
  ·rw[if_neg k1,if_neg k2,if_neg k3,if_neg k4,if_neg k5,if_neg k6,if_neg k7,if_neg k8,if_neg k9,if_neg k10,if_neg k11,if_neg k12,if_pos k13]at hq
   obtain rfl:=z'W hq
   exact ZkA x hp he hf
  rw[if_neg k1,if_neg k2,if_neg k3,if_neg k4,if_neg k5,if_neg k6,if_neg k7,if_neg k8,if_neg k9,if_neg k10,if_neg k11,if_neg k12,if_neg k13]at hq
  cases hq
end Go.Proofs.YthlkpnjjkgmlkaaGreat
