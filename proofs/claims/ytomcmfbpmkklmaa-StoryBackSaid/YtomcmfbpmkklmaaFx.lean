/- The statement of StoryBack. No condition. -/
import Derived.Test.YtomcmfbpmkklmaaFo
import Derived.Test.YtomcmfbpmkklmaaFu
namespace Go.Proofs.Ytomcmfbpmkklmaa
set_option linter.unusedSimpArgs false
set_option linter.unusedVariables false
open Go Go.Proofs Go.Vc Go.ChangeShapes Go.WideShapes Go.ChangeAt Go.RowKit Go.Joins
theorem lawStoryBack_all (Ds : List D) (h : ShA [.many confT, .many confT, .one .str] Ds) : Pure Try.prog 5 Ds (bD true) := by
 obtain ⟨_, _, rfl, h1, _, _, rfl, h2, _, _, rfl, ⟨s, rfl, _⟩, h3⟩ := h
 rw [ShA] at h3; subst h3
 obtain ⟨a, rfl⟩ := conf_all h1
 obtain ⟨b, rfl⟩ := conf_all h2
 exact lawBack a b s
set_option maxRecDepth 100000 in
theorem lifted_StoryBack (os : Os) (started : os.Started) (H : Type) (enc : TypeId × Value → H) :
  ReturnsInHanded {} Try.checked os 5 .any (Rows.storyBackSpec.pre6 enc Try.prog Try.f5 Rows.storyBackRow.domain false) (Rows.storyBackSpec.post enc Try.prog Try.f5 false true false false) := by
 refine returnsInHanded_of_change (C := Try.checked) ownK started (by kernel_rfl) Try.func5
  (ChangeSpec.witness6 (enc := enc) (C := Try.checked) false ⟨#[], #[.agg #[.slice none 0 0, .slice none 0 0, .slice none 0 0, .slice none 0 0], .agg #[.slice none 0 0, .slice none 0 0, .slice none 0 0, .slice none 0 0], .string ⟨#[]⟩], []⟩ 12 (by kernel_rfl) (by kernel_rfl) (by kernel_rfl) (by kernel_rfl)) ?_
 intro W base args ds gs before hval0 hW hcnd _
 have hval : ∀ (j : Nat) t v, Try.f5.params[j]? = some t → args[j]? = some v → Value.okWide Try.prog W .any base t v := hval0
 have hW' := hW
 obtain ⟨p, q, hA0, hV, rfl, hfz, hnd⟩ := hW
 have hA : DataW.TrodAll enc Try.prog W 0 (fun _ => true) true Try.f5.params.toList args.toList ds p := hA0
 obtain ⟨rfl, rfl⟩ := trodVars_none hV
 obtain ⟨Ds, hS, hR⟩ := open_args (L := live [] (fun _ => False)) (fun b hb => hb.elim id (fun h => by cases h)) _ _ _ _ [.many confT, .many confT, .one .str] hA
  (fun j t v h1 h2 => hval j t v (by simpa using h1) (by simpa using h2)) (by kernel_rfl)
 obtain ⟨d0, d1, d2, rfl⟩ := spine3 (trodAll_len _ _ _ _ hA)
 simp only [List.append_nil] at hW'
 have hlt : ∀ x ∈ p, x.block < W.heap.size := fun x hx => by simpa using hW'.lt x hx
 refine (calls_yes (lawStoryBack_all Ds hS) W args.toList hR).mono fun e W' ⟨he, hw⟩ => ?_
 subst he
 exact ⟨_, rfl, _, _, _, [], p, [], hW', trodAll_mk1 (shut_bool Try.underlying4 _), shut_args (by kernel_rfl) hw _ _ _ _ (by kernel_rfl) hA hlt, rfl, hw.frame _, fun h => by cases h⟩
theorem StoryBack_holds : Rows.StoryBackSaid :=
 OpenClaim.holds_of_wide 5 Try.f5 rfl rfl rfl rfl rfl rfl rfl ⟨rfl, rfl, rfl, rfl, rfl⟩ rfl rfl rfl rfl rfl (by kernel_rfl) Try.func5 (by kernel_rfl)
  (of_decide_eq_true (by kernel_rfl)) (by unfold Func.isWrapper; first | (rw [if_pos (by decide +kernel)]; kernel_rfl) | (rw [if_neg (by decide +kernel)]; exact ⟨rfl, rfl⟩))
  (fun os started H enc _ => lifted_StoryBack os started H enc)
end Go.Proofs.Ytomcmfbpmkklmaa
