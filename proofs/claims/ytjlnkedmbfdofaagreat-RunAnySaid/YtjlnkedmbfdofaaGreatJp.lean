/- The statement of RunAny. No condition. -/
import Derived.Test.YtjlnkedmbfdofaaGreatJn
import Derived.Test.YtjlnkedmbfdofaaGreatZp
namespace Go.Proofs.YtjlnkedmbfdofaaGreat
set_option linter.unusedSimpArgs false
set_option linter.unusedVariables false
open Go Go.Proofs Go.Vc Go.ChangeShapes Go.WideShapes Go.ChangeAt Go.RowKit Go.Joins
theorem Zfw (Ds:List D) (h:ShA [.one .str] Ds):Vc.Pure Tryz.prog 3 Ds (bD true):=by
 obtain⟨_,_,rfl,h1,h2⟩:=h
 rw[ShA]at h2;subst h2
 obtain⟨s,rfl,hs⟩:=h1
 exact ZjJ s hs
theorem ZfO {a b:Bool} (h:a=true) (k:b=true):(a&&b)=true:=by subst h;subst k;rfl
theorem y'D {a b:Bool} (h:(a&&b)=true):a=true∧b=true:=by cases a<;>cases b<;>first|exact⟨rfl,rfl⟩|cases h
theorem Zcz:(laidOutB Tryz.pinned.checked.prog&&mapsRowed Tryz.pinned.checked.prog)=true:=by kernel_rfl
theorem Zaz:((Rows.runAnyRow.inPlace == Tryz.pinned.checked.prog.inPlace 3)&&(Rows.runAnyRow.unfollowed == Tryz.pinned.checked.prog.unfollowed 3)&&(Rows.runAnyRow.recurses == Tryz.pinned.checked.prog.recurses 3))=true:=by kernel_rfl
theorem Zfu:(Rows.runAnyRow.named == Tryz.pinned.checked.prog.varsNamed 3)=true:=by kernel_rfl
theorem Zcb:(Rows.runAnyRow.plainKeys == Tryz.pinned.checked.prog.plainKeys&&Tryz.pinned.checked.prog.stopsHeard)=true:=by kernel_rfl
theorem Zft:Tryz.pinned.checked.prog.mayEnter=true:=by kernel_rfl
theorem ZcA:((Rows.runAnyRow.lifted == Tryz.pinned.checked.prog.liftsFinal)&&(Tryz.pinned.checked.prog.make == some Rows.runAnyRow.make))=true:=by kernel_rfl
set_option maxRecDepth 100000 in
theorem Zfv:joinedFacts Tryz.pinned.checked.prog 3 Tryz.f3 Rows.runAnySpec Rows.runAnyRow=true:=by
 unfold joinedFacts
 repeat' with_reducible refine ZfO ?_ ?_
 all_goals first
  |with_reducible exact(y'D Zcz).1|with_reducible exact(y'D Zcz).2
  |with_reducible exact(y'D (y'D Zaz).1).1|with_reducible exact(y'D (y'D Zaz).1).2|with_reducible exact(y'D Zaz).2
  |with_reducible exact Zfu|with_reducible exact(y'D Zcb).1|with_reducible exact(y'D Zcb).2|with_reducible exact Zft
  |with_reducible exact(y'D ZcA).1|with_reducible exact(y'D ZcA).2
  |kernel_rfl
set_option maxRecDepth 100000 in
theorem Zfx (os:Os) (started:os.Started) (H:Type) (enc:TypeId×Value→H):
  ReturnsInHanded {} Tryz.checked os 3 .any (Rows.runAnySpec.pre6 enc Tryz.prog Tryz.f3 Rows.runAnyRow.domain false) (Rows.runAnySpec.post enc Tryz.prog Tryz.f3 false true false false):=by
 refine returnsInHanded_of_change (C:=Tryz.checked) Zow started (by kernel_rfl) Tryz.func3
  (ChangeSpec.witness6 (enc:=enc) (C:=Tryz.checked) false ⟨#[], #[.string ⟨#[]⟩],[]⟩ 12 (by kernel_rfl) (by kernel_rfl) (by kernel_rfl) (by kernel_rfl)) ?_
 intro W base args ds gs before hval0 hW hcnd _
 have hval: ∀(j:Nat) t v,Tryz.f3.params[j]?=some t→args[j]?=some v→Value.okWide Tryz.prog W .any base t v:=hval0
 have hW':=hW
 obtain⟨p,q,hA0,hV,rfl,hfz,hnd⟩:=hW
 have hA:DataW.TrodAll enc Tryz.prog W 0 (fun _=>true) true Tryz.f3.params.toList args.toList ds p:=hA0
 obtain⟨rfl,rfl⟩:=trodVars_none hV
 obtain⟨Ds,hS,hR⟩:=Zfh (L:=live [] (fun _=>False)) (fun b hb=>hb.elim id (fun h=>by cases h)) _ _ _ _ [.one .str] hA
  (fun j t v h1 h2=>hval j t v (by simpa using h1) (by simpa using h2)) (by kernel_rfl)
 obtain⟨d0,rfl⟩:=Znp (Zdm _ _ _ _ hA)
 simp only[z'x]at hW'
 have hlt: ∀x∈p,x.block<W.heap.size:=fun x hx=>by simpa using hW'.lt x hx
 refine(Zjd (Zfw Ds hS) W args.toList hR).mono fun e W' ⟨he,hw⟩=>?_
 subst he
 exact⟨_,rfl,_,_,_,[],p,[],hW',trodAll_mk1 (shut_bool Tryz.underlying4 _),Zfp (by kernel_rfl) hw _ _ _ _ (by kernel_rfl) hA hlt,rfl,hw.frame _,fun h=>by cases h⟩
theorem RunAny_holds:Rows.RunAnySaid:=
 OpenClaim.holds_of_wide 3 Tryz.f3 rfl rfl rfl rfl rfl rfl rfl ⟨rfl,rfl,rfl,rfl,rfl⟩ rfl rfl rfl rfl rfl (by kernel_rfl) Tryz.func3 Zfv
  (of_decide_eq_true (by kernel_rfl)) (by unfold Func.isWrapper;first|(rw[if_pos (by decide+kernel)];kernel_rfl)|(rw[if_neg (by decide+kernel)];exact⟨rfl,rfl⟩))
  (fun os started H enc _=>Zfx os started H enc)
end Go.Proofs.YtjlnkedmbfdofaaGreat
