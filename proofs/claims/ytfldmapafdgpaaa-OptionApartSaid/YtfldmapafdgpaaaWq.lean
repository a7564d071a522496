/- The statement of OptionApart. No condition. -/
import Derived.Test.YtfldmapafdgpaaaWp
import Derived.Test.YtfldmapafdgpaaaWl
namespace Go.Proofs.Ytfldmapafdgpaaa
set_option linter.unusedSimpArgs false
set_option linter.unusedVariables false
open Go Go.Proofs Go.Vc Go.ChangeShapes Go.WideShapes Go.ChangeAt Go.RowKit Go.Joins

set_option maxRecDepth 100000 in
theorem lifted_OptionApart (os : Os) (started : os.Started) (H : Type) (enc : TypeId × Value → H) :
    ReturnsInHanded {} Try.checked os 6 .any (Rows.optionApartSpec.pre6 enc Try.prog Try.f6 Rows.optionApartRow.domain false) (Rows.optionApartSpec.post enc Try.prog Try.f6 false true false false) := by
  refine returnsInHanded_of_change (C := Try.checked) own25 started (by kernel_rfl) Try.func6
    (ChangeSpec.witness6 (enc := enc) (C := Try.checked) false ⟨#[], #[.agg #[.int .i64 0, .int .i64 0, .int .i64 0, .int .i64 0], .agg #[.int .i64 0, .int .i64 0, .int .i64 0, .int .i64 0]], []⟩ 8 (by kernel_rfl) (by kernel_rfl) (by kernel_rfl) (by kernel_rfl)) ?_
  intro W base args ds gs before hval0 hW hcnd _
  have hval : ∀ (j : Nat) t v, Try.f6.params[j]? = some t → args[j]? = some v → Value.okWide Try.prog W .any base t v := hval0
  have hW' := hW
  obtain ⟨p, q, hA0, hV, rfl, hfz, hnd⟩ := hW
  have hA : DataW.TrodAll enc Try.prog W 0 (fun _ => true) true Try.f6.params.toList args.toList ds p := hA0
  rw [Try.params6] at hA hval
  obtain ⟨v0, v1, d0, d1, p0, p1, rfl, rfl, rfl, h0, h1⟩ := trodAll_two hA
  obtain ⟨rfl, rfl⟩ := trodVars_none hV
  obtain ⟨c0, c1, c2, c3, y0, y1, y2, y3, k, rfl, rfl, rfl, hy0, hy1, hy2, hy3⟩ := open_agg4 Try.underlying24 (by kernel_rfl) (by kernel_rfl) (hval 0 24 v0 rfl rfl) h0
  obtain ⟨m, e0, rfl, wm⟩ := DataW.trod_int Try.underlying3 hy0
  obtain ⟨r, e1, rfl, wr⟩ := DataW.trod_int Try.underlying3 hy1
  obtain ⟨o, e2, rfl, wo⟩ := DataW.trod_int Try.underlying3 hy2
  obtain ⟨b, e3, rfl, wb⟩ := DataW.trod_int Try.underlying3 hy3
  simp at e0 e1 e2 e3
  subst e0 e1 e2 e3
  obtain ⟨c0, c1, c2, c3, y0, y1, y2, y3, k, rfl, rfl, rfl, hy0, hy1, hy2, hy3⟩ := open_agg4 Try.underlying24 (by kernel_rfl) (by kernel_rfl) (hval 1 24 v1 rfl rfl) h1
  obtain ⟨m', e0, rfl, wm'⟩ := DataW.trod_int Try.underlying3 hy0
  obtain ⟨r', e1, rfl, wr'⟩ := DataW.trod_int Try.underlying3 hy1
  obtain ⟨o', e2, rfl, wo'⟩ := DataW.trod_int Try.underlying3 hy2
  obtain ⟨b', e3, rfl, wb'⟩ := DataW.trod_int Try.underlying3 hy3
  simp at e0 e1 e2 e3
  subst e0 e1 e2 e3
  clear hA0 hval0
  simp only [List.append_nil] at hW'
  refine (calls_yes (lawApart m r o b m' r' o' b') W [.agg #[.int .i64 m, .int .i64 r, .int .i64 o, .int .i64 b], .agg #[.int .i64 m', .int .i64 r', .int .i64 o', .int .i64 b']]
    ⟨_, _, rfl, ⟨rfl, _, rfl, ⟨_, _, rfl, rfl, _, _, rfl, rfl, _, _, rfl, rfl, _, _, rfl, rfl, rfl⟩⟩, _, _, rfl, ⟨rfl, _, rfl, ⟨_, _, rfl, rfl, _, _, rfl, rfl, _, _, rfl, rfl, _, _, rfl, rfl, rfl⟩⟩, rfl⟩).mono fun e W' ⟨he, hw⟩ => ?_
  subst he
  exact ⟨_, rfl, _, _, _, [], [], [], hW', trodAll_mk1 (shut_bool Try.underlying4 _),
    trodAll_mk2 (p := []) (shut_agg4 Try.underlying24 (by kernel_rfl) (by kernel_rfl) (shut_int Try.underlying3 wm) (shut_int Try.underlying3 wr) (shut_int Try.underlying3 wo) (shut_int Try.underlying3 wb)) (shut_agg4 Try.underlying24 (by kernel_rfl) (by kernel_rfl) (shut_int Try.underlying3 wm') (shut_int Try.underlying3 wr') (shut_int Try.underlying3 wo') (shut_int Try.underlying3 wb')), rfl,
    hw.frame _, fun h => by cases h⟩

theorem OptionApart_holds : Rows.OptionApartSaid :=
  OpenClaim.holds_of_wide 6 Try.f6 rfl rfl rfl rfl rfl rfl rfl ⟨rfl, rfl, rfl, rfl, rfl⟩ rfl rfl rfl rfl rfl (by kernel_rfl) Try.func6 (by kernel_rfl)
    (of_decide_eq_true (by kernel_rfl)) (by unfold Func.isWrapper; first | (rw [if_pos (by decide +kernel)]; kernel_rfl) | (rw [if_neg (by decide +kernel)]; exact ⟨rfl, rfl⟩))
    (fun os started H enc _ => lifted_OptionApart os started H enc)
end Go.Proofs.Ytfldmapafdgpaaa
