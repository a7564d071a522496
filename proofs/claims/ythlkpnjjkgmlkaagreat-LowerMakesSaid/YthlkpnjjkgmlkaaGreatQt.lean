/- The statement of LowerMakes. No condition. -/
import Derived.Test.YthlkpnjjkgmlkaaGreatQn
import Derived.Test.YthlkpnjjkgmlkaaGreatQa
namespace Go.Proofs.YthlkpnjjkgmlkaaGreat
set_option linter.unusedSimpArgs false
set_option linter.unusedVariables false
open Go Go.Proofs Go.Vc Go.ChangeShapes Go.WideShapes Go.ChangeAt Go.RowKit Go.Joins
theorem Zf2 (Ds:List D) (h:ShA [.many ZdQ] Ds):Pure Tryz.prog 3 Ds (bD true):=by
 obtain⟨_,_,rfl,h1,h3⟩:=h
 rw[ShA]at h3;subst h3
 obtain⟨p,rfl⟩:=Zhs h1
 exact ZpF p
theorem Zgi {a b:Bool} (h:a=true) (k:b=true):(a&&b)=true:=by subst h;subst k;rfl
theorem y'9 {a b:Bool} (h:(a&&b)=true):a=true∧b=true:=by cases a<;>cases b<;>first|exact⟨rfl,rfl⟩|cases h
theorem ZcI:(laidOutB Tryz.pinned.checked.prog&&mapsRowed Tryz.pinned.checked.prog)=true:=by kernel_rfl
theorem ZaG:((Rows.lowerMakesRow.inPlace == Tryz.pinned.checked.prog.inPlace 3)&&(Rows.lowerMakesRow.unfollowed == Tryz.pinned.checked.prog.unfollowed 3)&&(Rows.lowerMakesRow.recurses == Tryz.pinned.checked.prog.recurses 3))=true:=by kernel_rfl
theorem Zf0:(Rows.lowerMakesRow.named == Tryz.pinned.checked.prog.varsNamed 3)=true:=by kernel_rfl
theorem Zci:(Rows.lowerMakesRow.plainKeys == Tryz.pinned.checked.prog.plainKeys&&Tryz.pinned.checked.prog.stopsHeard)=true:=by kernel_rfl
theorem ZfZ:Tryz.pinned.checked.prog.mayEnter=true:=by kernel_rfl
theorem ZcJ:((Rows.lowerMakesRow.lifted == Tryz.pinned.checked.prog.liftsFinal)&&(Tryz.pinned.checked.prog.make == some Rows.lowerMakesRow.make))=true:=by kernel_rfl
set_option maxRecDepth 100000 in
theorem Zf1:joinedFacts Tryz.pinned.checked.prog 3 Tryz.f3 Rows.lowerMakesSpec Rows.lowerMakesRow=true:=by
 unfold joinedFacts
 repeat' with_reducible refine Zgi ?_ ?_
 all_goals first
  |with_reducible exact(y'9 ZcI).1|with_reducible exact(y'9 ZcI).2
  |with_reducible exact(y'9 (y'9 ZaG).1).1|with_reducible exact(y'9 (y'9 ZaG).1).2|with_reducible exact(y'9 ZaG).2
  |with_reducible exact Zf0|with_reducible exact(y'9 Zci).1|with_reducible exact(y'9 Zci).2|with_reducible exact ZfZ
  |with_reducible exact(y'9 ZcJ).1|with_reducible exact(y'9 ZcJ).2
  |kernel_rfl
set_option maxRecDepth 100000 in
theorem Zf3 (os:Os) (started:os.Started) (H:Type) (enc:TypeId×Value→H):
  ReturnsInHanded {} Tryz.checked os 3 .any (Rows.lowerMakesSpec.pre6 enc Tryz.prog Tryz.f3 Rows.lowerMakesRow.domain false) (Rows.lowerMakesSpec.post enc Tryz.prog Tryz.f3 false true false false):=by
 refine returnsInHanded_of_change (C:=Tryz.checked) ZsS started (by kernel_rfl) Tryz.func3
  (ChangeSpec.witness6 (enc:=enc) (C:=Tryz.checked) false ⟨#[], #[.agg #[.int .i64 0,.slice none 0 0,.slice none 0 0,.slice none 0 0]],[]⟩ 12 (by kernel_rfl) (by kernel_rfl) (by kernel_rfl) (by kernel_rfl)) ?_
 intro W base args ds gs before hval0 hW hcnd _
 have hval: ∀(j:Nat) t v,Tryz.f3.params[j]?=some t→args[j]?=some v→Value.okWide Tryz.prog W .any base t v:=hval0
 have hW':=hW
 obtain⟨p,q,hA0,hV,rfl,hfz,hnd⟩:=hW
 have hA:DataW.TrodAll enc Tryz.prog W 0 (fun _=>true) true Tryz.f3.params.toList args.toList ds p:=hA0
 obtain⟨rfl,rfl⟩:=trodVars_none hV
 obtain⟨Ds,hS,hR⟩:=Zfh (L:=live [] (fun _=>False)) (fun b hb=>hb.elim id (fun h=>by cases h)) _ _ _ _ [.many ZdQ] hA
  (fun j t v h1 h2=>hval j t v (by simpa using h1) (by simpa using h2)) (by kernel_rfl)
 obtain⟨d0,rfl⟩:=ZoH (ZdB _ _ _ _ hA)
 simp only[z'u]at hW'
 have hlt: ∀x∈p,x.block<W.heap.size:=fun x hx=>by simpa using hW'.lt x hx
 refine(Zio (Zf2 Ds hS) W args.toList hR).mono fun e W' ⟨he,hw⟩=>?_
 subst he
 exact⟨_,rfl,_,_,_,[],p,[],hW',trodAll_mk1 (shut_bool Tryz.underlying4 _),Zfp (by kernel_rfl) hw _ _ _ _ (by kernel_rfl) hA hlt,rfl,hw.frame _,fun h=>by cases h⟩
theorem LowerMakes_holds:Rows.LowerMakesSaid:=
 OpenClaim.holds_of_wide 3 Tryz.f3 rfl rfl rfl rfl rfl rfl rfl ⟨rfl,rfl,rfl,rfl,rfl⟩ rfl rfl rfl rfl rfl (by kernel_rfl) Tryz.func3 Zf1
  (of_decide_eq_true (by kernel_rfl)) (by unfold Func.isWrapper;first|(rw[if_pos (by decide+kernel)];kernel_rfl)|(rw[if_neg (by decide+kernel)];exact⟨rfl,rfl⟩))
  (fun os started H enc _=>Zf3 os started H enc)
end Go.Proofs.YthlkpnjjkgmlkaaGreat
