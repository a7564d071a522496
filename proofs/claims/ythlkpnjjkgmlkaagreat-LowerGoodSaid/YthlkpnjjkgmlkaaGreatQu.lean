/- The statement of LowerGood. No condition. -/
import Derived.Test.YthlkpnjjkgmlkaaGreatQn
import Derived.Test.YthlkpnjjkgmlkaaGreatQa
namespace Go.Proofs.YthlkpnjjkgmlkaaGreat
set_option linter.unusedSimpArgs false
set_option linter.unusedVariables false
open Go Go.Proofs Go.Vc Go.ChangeShapes Go.WideShapes Go.ChangeAt Go.RowKit Go.Joins
theorem ZgE (Ds:List D) (h:ShA [.many ZdQ] Ds):Pure Tryz.prog 4 Ds (bD true):=by
 obtain⟨_,_,rfl,h1,h3⟩:=h
 rw[ShA]at h3;subst h3
 obtain⟨p,rfl⟩:=Zhs h1
 exact Zro p
theorem ZgQ {a b:Bool} (h:a=true) (k:b=true):(a&&b)=true:=by subst h;subst k;rfl
theorem x'f {a b:Bool} (h:(a&&b)=true):a=true∧b=true:=by cases a<;>cases b<;>first|exact⟨rfl,rfl⟩|cases h
theorem Zdd:(laidOutB Tryz.pinned.checked.prog&&mapsRowed Tryz.pinned.checked.prog)=true:=by kernel_rfl
theorem Zbg:((Rows.lowerGoodRow.inPlace == Tryz.pinned.checked.prog.inPlace 4)&&(Rows.lowerGoodRow.unfollowed == Tryz.pinned.checked.prog.unfollowed 4)&&(Rows.lowerGoodRow.recurses == Tryz.pinned.checked.prog.recurses 4))=true:=by kernel_rfl
theorem ZgB:(Rows.lowerGoodRow.named == Tryz.pinned.checked.prog.varsNamed 4)=true:=by kernel_rfl
theorem ZcH:(Rows.lowerGoodRow.plainKeys == Tryz.pinned.checked.prog.plainKeys&&Tryz.pinned.checked.prog.stopsHeard)=true:=by kernel_rfl
theorem ZgA:Tryz.pinned.checked.prog.mayEnter=true:=by kernel_rfl
theorem Zde:((Rows.lowerGoodRow.lifted == Tryz.pinned.checked.prog.liftsFinal)&&(Tryz.pinned.checked.prog.make == some Rows.lowerGoodRow.make))=true:=by kernel_rfl
set_option maxRecDepth 100000 in
theorem ZgC:joinedFacts Tryz.pinned.checked.prog 4 Tryz.f4 Rows.lowerGoodSpec Rows.lowerGoodRow=true:=by
 unfold joinedFacts
 repeat' with_reducible refine ZgQ ?_ ?_
 all_goals first
  |with_reducible exact(x'f Zdd).1|with_reducible exact(x'f Zdd).2
  |with_reducible exact(x'f (x'f Zbg).1).1|with_reducible exact(x'f (x'f Zbg).1).2|with_reducible exact(x'f Zbg).2
  |with_reducible exact ZgB|with_reducible exact(x'f ZcH).1|with_reducible exact(x'f ZcH).2|with_reducible exact ZgA
  |with_reducible exact(x'f Zde).1|with_reducible exact(x'f Zde).2
  |kernel_rfl
set_option maxRecDepth 100000 in
theorem ZgG (os:Os) (started:os.Started) (H:Type) (enc:TypeId×Value→H):
  ReturnsInHanded {} Tryz.checked os 4 .any (Rows.lowerGoodSpec.pre6 enc Tryz.prog Tryz.f4 Rows.lowerGoodRow.domain false) (Rows.lowerGoodSpec.post enc Tryz.prog Tryz.f4 false true false false):=by
 refine returnsInHanded_of_change (C:=Tryz.checked) ZsS started (by kernel_rfl) Tryz.func4
  (ChangeSpec.witness6 (enc:=enc) (C:=Tryz.checked) false ⟨#[], #[.agg #[.int .i64 0,.slice none 0 0,.slice none 0 0,.slice none 0 0]],[]⟩ 12 (by kernel_rfl) (by kernel_rfl) (by kernel_rfl) (by kernel_rfl)) ?_
 intro W base args ds gs before hval0 hW hcnd _
 have hval: ∀(j:Nat) t v,Tryz.f4.params[j]?=some t→args[j]?=some v→Value.okWide Tryz.prog W .any base t v:=hval0
 have hW':=hW
 obtain⟨p,q,hA0,hV,rfl,hfz,hnd⟩:=hW
 have hA:DataW.TrodAll enc Tryz.prog W 0 (fun _=>true) true Tryz.f4.params.toList args.toList ds p:=hA0
 obtain⟨rfl,rfl⟩:=trodVars_none hV
 obtain⟨Ds,hS,hR⟩:=Zfh (L:=live [] (fun _=>False)) (fun b hb=>hb.elim id (fun h=>by cases h)) _ _ _ _ [.many ZdQ] hA
  (fun j t v h1 h2=>hval j t v (by simpa using h1) (by simpa using h2)) (by kernel_rfl)
 obtain⟨d0,rfl⟩:=ZoH (ZdB _ _ _ _ hA)
 simp only[z'u]at hW'
 have hlt: ∀x∈p,x.block<W.heap.size:=fun x hx=>by simpa using hW'.lt x hx
 refine(Zio (ZgE Ds hS) W args.toList hR).mono fun e W' ⟨he,hw⟩=>?_
 subst he
 exact⟨_,rfl,_,_,_,[],p,[],hW',trodAll_mk1 (shut_bool Tryz.underlying4 _),Zfp (by kernel_rfl) hw _ _ _ _ (by kernel_rfl) hA hlt,rfl,hw.frame _,fun h=>by cases h⟩
theorem LowerGood_holds:Rows.LowerGoodSaid:=
 OpenClaim.holds_of_wide 4 Tryz.f4 rfl rfl rfl rfl rfl rfl rfl ⟨rfl,rfl,rfl,rfl,rfl⟩ rfl rfl rfl rfl rfl (by kernel_rfl) Tryz.func4 ZgC
  (of_decide_eq_true (by kernel_rfl)) (by unfold Func.isWrapper;first|(rw[if_pos (by decide+kernel)];kernel_rfl)|(rw[if_neg (by decide+kernel)];exact⟨rfl,rfl⟩))
  (fun os started H enc _=>ZgG os started H enc)
end Go.Proofs.YthlkpnjjkgmlkaaGreat
