/- What chapter 20's statements take, and their known calls. No condition. -/
import Derived.Test.YtfneeacgkdhldaaGreatSa
import Derived.Test.YtfneeacgkdhldaaGreatYq
import Derived.Test.YtfneeacgkdhldaaGreatXk
namespace Go.Proofs.YtfneeacgkdhldaaGreat
set_option maxHeartbeats 16000000
set_option linter.unusedSimpArgs false
set_option linter.unusedVariables false
set_option maxRecDepth 20000
open Go Go.Proofs Go.Vc
attribute [local irreducible] y'5 VCg VCw VCx
theorem RelL.wk' {w:World} {L:Nat→Prop}: ∀(l' l:List D) (vs:List Value),WkL l' l→RelL w L l vs→RelL w L l' vs
 |[],_,vs,h,r=>by cases h;exact r
 |d'::ds',_,vs,h,r=>by
  obtain⟨d,ds,rfl,h1,h2⟩:=h
  obtain⟨v,vs',rfl,r1,r2⟩:=r
  exact⟨v,vs',rfl,Rel.wk _ _ _ h1 r1,RelL.wk' _ _ _ h2 r2⟩
theorem Fun.argsWk {P:Program} {f:FuncId} {args args':List D} {d:D} (h:Pure P f args' d) (hf:WkL args' args):Pure P f args d:=
 ⟨h.1,fun w L0 vs hi hr=>h.2 w L0 vs hi (RelL.wk' _ _ _ hf hr)⟩
def U20:Un:=⟨2,[],[0,0],[[⟨20,0,0,[],[],false,0⟩,⟨22,0,0,[],[],false,0⟩],[⟨8,0,0,[],[],false,0⟩,⟨22,0,0,[],[],false,0⟩]]⟩
def V20:Un:=⟨2,[0],[0],[[⟨9,0,0,Zqm,[],false,0⟩,⟨22,0,0,[],[],false,0⟩]]⟩
def W20:Un:=⟨2,[],[0],[[⟨22,0,0,[],[],false,0⟩]]⟩
abbrev vD:D:= .agg [iD 2,.sl true 1 [[iD 0]],.sl true 1 [[iD 0]],.sl true 1 [[.sl true 7 [[iD 9,iD 0,iD 0,opT,.gs none 0,bD false,iD 0],[iD 22,iD 0,iD 0,.gs none 0,.gs none 0,bD false,iD 0]]]]]
abbrev wD:D:= .agg [iD 2,.gs none 0,.sl true 1 [[iD 0]],.sl true 1 [[.sl true 7 [[iD 22,iD 0,iD 0,.gs none 0,.gs none 0,bD false,iD 0]]]]]
theorem ZlJ:Pure Tryz.prog 15 [] (.agg (unC U20)):=by
 refine Pure.wk (d:= .agg [iD 2,.gs none 0,.sl true 1 [[iD 0],[iD 0]],.sl true 1 [[.sl true 7 [[iD 20,iD 0,iD 0,.gs none 0,.gs none 0,bD false,iD 0],[iD 22,iD 0,iD 0,.gs none 0,.gs none 0,bD false,iD 0]]],
  [.sl true 7 [[iD 8,iD 0,iD 0,.gs none 0,.gs none 0,bD false,iD 0],[iD 22,iD 0,iD 0,.gs none 0,.gs none 0,bD false,iD 0]]]]]) ?_ ?_
 ·refine Fun.of T [.cell 0 25] Tryz.func15 rfl Tryz.ntmps15 Tryz.results15 rfl (by kernel_rfl) ?_
  repeat' first|refine vs T rfl fun K hK=>?_;(try simp (disch:=omega) only[go_sem,Nat.reduceBEq,Nat.reduceAdd,Nat.reduceMul,Nat.reduceLeDiff]);(first|refine hK _ _ ?_;clear hK K|intro bq hbq;(try simp only[HB]at hbq);refine hK _ _ ?_;clear hK K)|refine st rfl ?_|refine nl ?_|exact Zj0 T rfl (by(simp (disch:=omega) only[hget_eq])<;>rfl) rfl rfl rfl (z'a _) ⟨rfl,rfl⟩
  all_goals rfl
 ·refine Zit ?_
  repeat' first|exact ZdR|exact Zeq|exact Zep|exact Zgu|apply Zke|apply v'6|apply Zfq
theorem ZbN:OkU U20:=ZcJ (by kernel_rfl)
theorem Zp2:OkU V20:=ZcJ (by kernel_rfl)
theorem Zp3:OkU W20:=ZcJ (by kernel_rfl)
theorem Zqr:Wk (.agg (unC V20)) vD:=by
 refine Zit ?_
 repeat' first|exact ZdR|exact Zeq|exact Zep|exact Zgu|apply Zke|apply v'6|apply Zfq
theorem Zqs:Wk (.agg (unC W20)) wD:=by
 refine Zit ?_
 repeat' first|exact ZdR|exact Zeq|exact Zep|exact Zgu|apply Zke|apply v'6|apply Zfq
theorem ZjX:Pure Tryz.prog 5 [] (bD true):=by
 have cu:=ZlJ
 have a1:Pure Tryz.prog 11 [.agg (unC U20),iD 1,iD 1,iD 2,.sl true 1 [[iD 1]],.sl true 1 [[iD 0]]] (bD true):=by
  have:=ZeJ U20 ZbN 1 1 2 [1] [0] (by decide) (by decide)
  rw[show Zc3 U20 1 1 2 [1] [0]=true by kernel_rfl]at this
  exact Fun.argsW this (z't (Fz.refl _ _) (z't (Fz.refl _ _) (z't (Fz.refl _ _) (z't (Fz.refl _ _) (z't ZaJ (z't ZaJ x'T))))))
 have a2:Pure Tryz.prog 11 [.agg (unC U20),iD 1,iD 1,iD 1,.gs none 0,.sl true 1 [[iD 0]]] (bD false):=by
  have:=ZeJ U20 ZbN 1 1 1 [] [0] (by decide) (by decide)
  rw[show Zc3 U20 1 1 1 [] [0]=false by kernel_rfl]at this
  exact Fun.argsW this (z't (Fz.refl _ _) (z't (Fz.refl _ _) (z't (Fz.refl _ _) (z't (Fz.refl _ _) (z't y'q (z't ZaJ x'T))))))
 have a3:Pure Tryz.prog 16 [.agg (unC U20),iD 1,iD 1,iD 1,.gs none 0,.sl true 1 [[iD 0]]] (iD 1):=by
  have:=Zjy U20 ZbN 1 1 1 [] [0] (by decide) (by decide)
  rw[show Zkc U20 1 1 1 [] [0]=1 by kernel_rfl]at this
  exact Fun.argsW this (z't (Fz.refl _ _) (z't (Fz.refl _ _) (z't (Fz.refl _ _) (z't (Fz.refl _ _) (z't y'q (z't ZaJ x'T))))))
 have a4:Pure Tryz.prog 16 [.agg (unC U20),iD 1,iD 1,iD 1,.sl true 1 [[iD 1]],.sl true 1 [[iD 0]]] (iD (-1)):=by
  have:=Zjy U20 ZbN 1 1 1 [1] [0] (by decide) (by decide)
  rw[show Zkc U20 1 1 1 [1] [0]= -1 by kernel_rfl]at this
  exact Fun.argsW this (z't (Fz.refl _ _) (z't (Fz.refl _ _) (z't (Fz.refl _ _) (z't (Fz.refl _ _) (z't ZaJ (z't ZaJ x'T))))))
 have a5:Pure Tryz.prog 11 [.agg (unC U20),iD 1,iD 1,iD 1,.gs none 0,.sl true 1 [[iD 1]]] (bD false):=by
  have:=ZeJ U20 ZbN 1 1 1 [] [1] (by decide) (by decide)
  rw[show Zc3 U20 1 1 1 [] [1]=false by kernel_rfl]at this
  exact Fun.argsW this (z't (Fz.refl _ _) (z't (Fz.refl _ _) (z't (Fz.refl _ _) (z't (Fz.refl _ _) (z't y'q (z't ZaJ x'T))))))
 have a6:Pure Tryz.prog 13 [vD,iD 1,iD 1,.gs none 0] (bD true):=by
  have:=Zfp V20 Zp2 1 1 [] (by decide)
  rw[show ZeH V20 1 1 []=true by kernel_rfl]at this
  exact Fun.argsWk this (v'6 Zqr (v'6 ZdR (v'6 ZdR (v'6 Zeq Zep))))
 have a7:Pure Tryz.prog 13 [.agg (unC U20),iD 1,iD 1,.gs none 0] (bD false):=by
  have:=Zfp U20 ZbN 1 1 [] (by decide)
  rw[show ZeH U20 1 1 []=false by kernel_rfl]at this
  exact Fun.argsW this (z't (Fz.refl _ _) (z't (Fz.refl _ _) (z't (Fz.refl _ _) (z't y'q x'T))))
 have a8:Pure Tryz.prog 17 [wD,iD 1,iD 1,.gs none 0] (bD true):=by
  have:=Zjx W20 Zp3 1 1 [] (by decide)
  rw[show Zkb W20 1 1 []=true by kernel_rfl]at this
  exact Fun.argsWk this (v'6 Zqs (v'6 ZdR (v'6 ZdR (v'6 Zeq Zep))))
 have a9:Pure Tryz.prog 17 [.agg (unC U20),iD 1,iD 1,.gs none 0] (bD false):=by
  have:=Zjx U20 ZbN 1 1 [] (by decide)
  rw[show Zkb U20 1 1 []=false by kernel_rfl]at this
  exact Fun.argsW this (z't (Fz.refl _ _) (z't (Fz.refl _ _) (z't (Fz.refl _ _) (z't y'q x'T))))
 have b1:Pure Tryz.prog 18 [.agg (unC U20),iD 1,iD 1,.sl true 1 [[iD 1]],.sl true 1 [[iD 0],[iD 0]],iD 9] (bD true):=by
  have:=Zgv U20 ZbN 1 1 [1] [0,0] 9 (by decide) (by decide)
  rw[show Zis U20 1 1 [1] [0,0] 9=true by kernel_rfl]at this
  exact Fun.argsW this (z't (Fz.refl _ _) (z't (Fz.refl _ _) (z't (Fz.refl _ _) (z't ZaJ (z't ZaJ (z't (Fz.refl _ _) x'T))))))
 have b2:Pure Tryz.prog 18 [.agg (unC U20),iD 1,iD 1,.gs none 0,.sl true 1 [[iD 1]],iD 1] (bD false):=by
  have:=Zgv U20 ZbN 1 1 [] [1] 1 (by decide) (by decide)
  rw[show Zis U20 1 1 [] [1] 1=false by kernel_rfl]at this
  exact Fun.argsW this (z't (Fz.refl _ _) (z't (Fz.refl _ _) (z't (Fz.refl _ _) (z't y'q (z't ZaJ (z't (Fz.refl _ _) x'T))))))
 have b3:Pure Tryz.prog 18 [.agg (unC U20),iD 1,iD 1,.gs none 0,.sl true 1 [[iD 1]],iD 0] (bD true):=by
  have:=Zgv U20 ZbN 1 1 [] [1] 0 (by decide) (by decide)
  rw[show Zis U20 1 1 [] [1] 0=true by kernel_rfl]at this
  exact Fun.argsW this (z't (Fz.refl _ _) (z't (Fz.refl _ _) (z't (Fz.refl _ _) (z't y'q (z't ZaJ (z't (Fz.refl _ _) x'T))))))
 refine Fun.of T [.tmp 0] Tryz.func5 rfl Tryz.ntmps5 Tryz.results5 rfl (by kernel_rfl) ?_
 repeat' first|refine vs T rfl fun K hK=>?_;(try simp (disch:=omega) only[go_sem,Nat.reduceBEq,Nat.reduceAdd,Nat.reduceMul,Nat.reduceLeDiff,beq_self_eq_true,z'r]);(first|refine hK _ _ ?_;clear hK K|intro bq hbq;(try simp only[HB]at hbq);refine hK _ _ ?_;clear hK K|refine Op1.callp rfl rfl (cu) rfl ?_;refine hK _ _ ?_;clear hK K|refine Op1.callp rfl rfl (a1) rfl ?_;refine hK _ _ ?_;clear hK K|refine Op1.callp rfl rfl (a2) rfl ?_;refine hK _ _ ?_;clear hK K|refine Op1.callp rfl rfl (a3) rfl ?_;refine hK _ _ ?_;clear hK K|refine Op1.callp rfl rfl (a4) rfl ?_;refine hK _ _ ?_;clear hK K|refine Op1.callp rfl rfl (a5) rfl ?_;refine hK _ _ ?_;clear hK K|refine Op1.callp rfl rfl (a6) rfl ?_;refine hK _ _ ?_;clear hK K|refine Op1.callp rfl rfl (a7) rfl ?_;refine hK _ _ ?_;clear hK K|refine Op1.callp rfl rfl (a8) rfl ?_;refine hK _ _ ?_;clear hK K|refine Op1.callp rfl rfl (a9) rfl ?_;refine hK _ _ ?_;clear hK K|refine Op1.callp rfl rfl (b1) rfl ?_;refine hK _ _ ?_;clear hK K|refine Op1.callp rfl rfl (b2) rfl ?_;refine hK _ _ ?_;clear hK K|refine Op1.callp rfl rfl (b3) rfl ?_;refine hK _ _ ?_;clear hK K)|refine st rfl ?_|refine nl ?_|refine gs rfl rfl ?_|exact z'n T (z'a _) ⟨rfl,rfl⟩
end Go.Proofs.YtfneeacgkdhldaaGreat
