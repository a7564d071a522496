/- The statement of OutsLists. No condition. -/
import Derived.Test.YthlkpnjjkgmlkaaGreatOk
import Derived.Test.YthlkpnjjkgmlkaaGreatFe
namespace Go.Proofs.YthlkpnjjkgmlkaaGreat
set_option linter.unusedSimpArgs false
set_option linter.unusedVariables false
open Go Go.Proofs Go.Vc Go.ChangeShapes Go.WideShapes Go.ChangeAt Go.RowKit Go.Joins
theorem ZrG {d:D} (h:Sh (.sl [.str]) d): ∃l:List ByteArray,d=tlD l∧ ∀x,x∈l→x.size≤9223372036854775807:=by
 obtain⟨rows,rfl,_,h⟩:=h
 obtain⟨l,rfl⟩:=Zlr (fun s:{s:ByteArray//s.size≤9223372036854775807}=>[sD s.1]) _ (fun r h=>by
  obtain⟨_,_,rfl,⟨s,rfl,hs⟩,h⟩:=h
  rw[ShL]at h;subst h
  exact⟨⟨s,hs⟩,rfl⟩) rows h
 refine⟨l.map (·.1),by rw[tlD,tlR,List.map_map];rfl,fun x hx=>?_⟩
 obtain⟨y,_,rfl⟩:=z'p.1 hx
 exact y.2
theorem ZgV (Ds:List D) (h:ShA [.one (.sl [.str]),.one (.sl [.str])] Ds):Pure Tryz.prog 10 Ds (bD true):=by
 obtain⟨_,_,rfl,h1,_,_,rfl,h2,h3⟩:=h
 rw[ShA]at h3;subst h3
 obtain⟨a,rfl,ha⟩:=ZrG h1
 obtain⟨b,rfl,hb⟩:=ZrG h2
 exact ZkR a b ha hb
theorem Zhd {a b:Bool} (h:a=true) (k:b=true):(a&&b)=true:=by subst h;subst k;rfl
theorem x'e {a b:Bool} (h:(a&&b)=true):a=true∧b=true:=by cases a<;>cases b<;>first|exact⟨rfl,rfl⟩|cases h
theorem Zdm:(laidOutB Tryz.pinned.checked.prog&&mapsRowed Tryz.pinned.checked.prog)=true:=by kernel_rfl
theorem Zbp:((Rows.outsListsRow.inPlace == Tryz.pinned.checked.prog.inPlace 10)&&(Rows.outsListsRow.unfollowed == Tryz.pinned.checked.prog.unfollowed 10)&&(Rows.outsListsRow.recurses == Tryz.pinned.checked.prog.recurses 10))=true:=by kernel_rfl
theorem ZgS:(Rows.outsListsRow.named == Tryz.pinned.checked.prog.varsNamed 10)=true:=by kernel_rfl
theorem ZcX:(Rows.outsListsRow.plainKeys == Tryz.pinned.checked.prog.plainKeys&&Tryz.pinned.checked.prog.stopsHeard)=true:=by kernel_rfl
theorem ZgR:Tryz.pinned.checked.prog.mayEnter=true:=by kernel_rfl
theorem Zdn:((Rows.outsListsRow.lifted == Tryz.pinned.checked.prog.liftsFinal)&&(Tryz.pinned.checked.prog.make == some Rows.outsListsRow.make))=true:=by kernel_rfl
set_option maxRecDepth 100000 in
theorem ZgT:joinedFacts Tryz.pinned.checked.prog 10 Tryz.f10 Rows.outsListsSpec Rows.outsListsRow=true:=by
 unfold joinedFacts
 repeat' with_reducible refine Zhd ?_ ?_
 all_goals first
  |with_reducible exact(x'e Zdm).1|with_reducible exact(x'e Zdm).2
  |with_reducible exact(x'e (x'e Zbp).1).1|with_reducible exact(x'e (x'e Zbp).1).2|with_reducible exact(x'e Zbp).2
  |with_reducible exact ZgS|with_reducible exact(x'e ZcX).1|with_reducible exact(x'e ZcX).2|with_reducible exact ZgR
  |with_reducible exact(x'e Zdn).1|with_reducible exact(x'e Zdn).2
  |kernel_rfl
set_option maxRecDepth 100000 in
theorem ZgW (os:Os) (started:os.Started) (H:Type) (enc:TypeId×Value→H):
  ReturnsInHanded {} Tryz.checked os 10 .any (Rows.outsListsSpec.pre6 enc Tryz.prog Tryz.f10 Rows.outsListsRow.domain false) (Rows.outsListsSpec.post enc Tryz.prog Tryz.f10 false true false false):=by
 refine returnsInHanded_of_change (C:=Tryz.checked) ZuG started (by kernel_rfl) Tryz.func10
  (ChangeSpec.witness6 (enc:=enc) (C:=Tryz.checked) false ⟨#[], #[.slice none 0 0,.slice none 0 0],[]⟩ 12 (by kernel_rfl) (by kernel_rfl) (by kernel_rfl) (by kernel_rfl)) ?_
 intro W base args ds gs before hval0 hW hcnd _
 have hval: ∀(j:Nat) t v,Tryz.f10.params[j]?=some t→args[j]?=some v→Value.okWide Tryz.prog W .any base t v:=hval0
 have hW':=hW
 obtain⟨p,q,hA0,hV,rfl,hfz,hnd⟩:=hW
 have hA:DataW.TrodAll enc Tryz.prog W 0 (fun _=>true) true Tryz.f10.params.toList args.toList ds p:=hA0
 obtain⟨rfl,rfl⟩:=trodVars_none hV
 obtain⟨Ds,hS,hR⟩:=Zjb (L:=live [] (fun _=>False)) (fun b hb=>hb.elim id (fun h=>by cases h)) _ _ _ _ [.one (.sl [.str]),.one (.sl [.str])] hA
  (fun j t v h1 h2=>hval j t v (by simpa using h1) (by simpa using h2)) (by kernel_rfl)
 obtain⟨d0,d1,rfl⟩:=ZtX (Zgx _ _ _ _ hA)
 simp only[z's]at hW'
 have hlt: ∀x∈p,x.block<W.heap.size:=fun x hx=>by simpa using hW'.lt x hx
 refine(Zon (ZgV Ds hS) W args.toList hR).mono fun e W' ⟨he,hw⟩=>?_
 subst he
 exact⟨_,rfl,_,_,_,[],p,[],hW',trodAll_mk1 (shut_bool Tryz.underlying4 _),Zjn (by kernel_rfl) hw _ _ _ _ (by kernel_rfl) hA hlt,rfl,hw.frame _,fun h=>by cases h⟩
theorem OutsLists_holds:Rows.OutsListsSaid:=
 OpenClaim.holds_of_wide 10 Tryz.f10 rfl rfl rfl rfl rfl rfl rfl ⟨rfl,rfl,rfl,rfl,rfl⟩ rfl rfl rfl rfl rfl (by kernel_rfl) Tryz.func10 ZgT
  (of_decide_eq_true (by kernel_rfl)) (by unfold Func.isWrapper;first|(rw[if_pos (by decide+kernel)];kernel_rfl)|(rw[if_neg (by decide+kernel)];exact⟨rfl,rfl⟩))
  (fun os started H enc _=>ZgW os started H enc)
end Go.Proofs.YthlkpnjjkgmlkaaGreat
