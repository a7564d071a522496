/- The statement of ClaimTells. No condition. -/
import Derived.Test.YthlkpnjjkgmlkaaGreatMn
import Derived.Test.YthlkpnjjkgmlkaaGreatLc
namespace Go.Proofs.YthlkpnjjkgmlkaaGreat
set_option linter.unusedSimpArgs false
set_option linter.unusedVariables false
open Go Go.Proofs Go.Vc Go.ChangeShapes Go.WideShapes Go.ChangeAt Go.RowKit Go.Joins
theorem Zg2 (Ds:List D) (h:ShA [.many ZeA,.many ZkI] Ds):Pure Tryz.prog 7 Ds (bD true):=by
 obtain⟨_,_,rfl,h1,_,_,rfl,h2,h3⟩:=h
 rw[ShA]at h3;subst h3
 obtain⟨p,m,r,b,rfl⟩:=ZhT h1
 obtain⟨l,d,f,s,rfl⟩:=ZoU h2
 exact Zki p m r b l d f s
theorem Zho {a b:Bool} (h:a=true) (k:b=true):(a&&b)=true:=by subst h;subst k;rfl
theorem x'A {a b:Bool} (h:(a&&b)=true):a=true∧b=true:=by cases a<;>cases b<;>first|exact⟨rfl,rfl⟩|cases h
theorem ZdG:(laidOutB Tryz.pinned.checked.prog&&mapsRowed Tryz.pinned.checked.prog)=true:=by kernel_rfl
theorem ZbB:((Rows.claimTellsRow.inPlace == Tryz.pinned.checked.prog.inPlace 7)&&(Rows.claimTellsRow.unfollowed == Tryz.pinned.checked.prog.unfollowed 7)&&(Rows.claimTellsRow.recurses == Tryz.pinned.checked.prog.recurses 7))=true:=by kernel_rfl
theorem ZgY:(Rows.claimTellsRow.named == Tryz.pinned.checked.prog.varsNamed 7)=true:=by kernel_rfl
theorem Zc6:(Rows.claimTellsRow.plainKeys == Tryz.pinned.checked.prog.plainKeys&&Tryz.pinned.checked.prog.stopsHeard)=true:=by kernel_rfl
theorem ZgW:Tryz.pinned.checked.prog.mayEnter=true:=by kernel_rfl
theorem ZdI:((Rows.claimTellsRow.lifted == Tryz.pinned.checked.prog.liftsFinal)&&(Tryz.pinned.checked.prog.make == some Rows.claimTellsRow.make))=true:=by kernel_rfl
set_option maxRecDepth 100000 in
theorem Zg0:joinedFacts Tryz.pinned.checked.prog 7 Tryz.f7 Rows.claimTellsSpec Rows.claimTellsRow=true:=by
 unfold joinedFacts
 repeat' with_reducible refine Zho ?_ ?_
 all_goals first
  |with_reducible exact(x'A ZdG).1|with_reducible exact(x'A ZdG).2
  |with_reducible exact(x'A (x'A ZbB).1).1|with_reducible exact(x'A (x'A ZbB).1).2|with_reducible exact(x'A ZbB).2
  |with_reducible exact ZgY|with_reducible exact(x'A Zc6).1|with_reducible exact(x'A Zc6).2|with_reducible exact ZgW
  |with_reducible exact(x'A ZdI).1|with_reducible exact(x'A ZdI).2
  |kernel_rfl
set_option maxRecDepth 100000 in
theorem Zg4 (os:Os) (started:os.Started) (H:Type) (enc:TypeId×Value→H):
  ReturnsInHanded {} Tryz.checked os 7 .any (Rows.claimTellsSpec.pre6 enc Tryz.prog Tryz.f7 Rows.claimTellsRow.domain false) (Rows.claimTellsSpec.post enc Tryz.prog Tryz.f7 false true false false):=by
 refine returnsInHanded_of_change (C:=Tryz.checked) Zuq started (by kernel_rfl) Tryz.func7
  (ChangeSpec.witness6 (enc:=enc) (C:=Tryz.checked) false ⟨#[], #[.agg #[.int .i64 0,.slice none 0 0,.slice none 0 0,.slice none 0 0,.int .i64 0,.int .i64 0,.int .i64 0],.agg #[.slice none 0 0,.slice none 0 0,.slice none 0 0,.slice none 0 0,.slice none 0 0,.bool false,.bool false]],[]⟩ 12 (by kernel_rfl) (by kernel_rfl) (by kernel_rfl) (by kernel_rfl)) ?_
 intro W base args ds gs before hval0 hW hcnd _
 have hval: ∀(j:Nat) t v,Tryz.f7.params[j]?=some t→args[j]?=some v→Value.okWide Tryz.prog W .any base t v:=hval0
 have hW':=hW
 obtain⟨p,q,hA0,hV,rfl,hfz,hnd⟩:=hW
 have hA:DataW.TrodAll enc Tryz.prog W 0 (fun _=>true) true Tryz.f7.params.toList args.toList ds p:=hA0
 obtain⟨rfl,rfl⟩:=trodVars_none hV
 obtain⟨Ds,hS,hR⟩:=Zgf (L:=live [] (fun _=>False)) (fun b hb=>hb.elim id (fun h=>by cases h)) _ _ _ _ [.many ZeA,.many ZkI] hA
  (fun j t v h1 h2=>hval j t v (by simpa using h1) (by simpa using h2)) (by kernel_rfl)
 obtain⟨d0,d1,rfl⟩:=Zp2 (Zev _ _ _ _ hA)
 simp only[z'I]at hW'
 have hlt: ∀x∈p,x.block<W.heap.size:=fun x hx=>by simpa using hW'.lt x hx
 refine(Zju (Zg2 Ds hS) W args.toList hR).mono fun e W' ⟨he,hw⟩=>?_
 subst he
 exact⟨_,rfl,_,_,_,[],p,[],hW',trodAll_mk1 (shut_bool Tryz.underlying4 _),Zgo (by kernel_rfl) hw _ _ _ _ (by kernel_rfl) hA hlt,rfl,hw.frame _,fun h=>by cases h⟩
theorem ClaimTells_holds:Rows.ClaimTellsSaid:=
 OpenClaim.holds_of_wide 7 Tryz.f7 rfl rfl rfl rfl rfl rfl rfl ⟨rfl,rfl,rfl,rfl,rfl⟩ rfl rfl rfl rfl rfl (by kernel_rfl) Tryz.func7 Zg0
  (of_decide_eq_true (by kernel_rfl)) (by unfold Func.isWrapper;first|(rw[if_pos (by decide+kernel)];kernel_rfl)|(rw[if_neg (by decide+kernel)];exact⟨rfl,rfl⟩))
  (fun os started H enc _=>Zg4 os started H enc)
end Go.Proofs.YthlkpnjjkgmlkaaGreat
