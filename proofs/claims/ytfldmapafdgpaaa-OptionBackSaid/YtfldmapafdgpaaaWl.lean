/- The statement of OptionShows. No condition. -/
import Derived.Test.YtfldmapafdgpaaaWk
import Derived.Test.YtfldmapafdgpaaaRows
import Derived.ProofKit
import Derived.OpenShut
import Derived.Lib.SmallJoins
namespace Go.Proofs.Ytfldmapafdgpaaa
set_option linter.unusedSimpArgs false
set_option linter.unusedVariables false
open Go Go.Proofs Go.Vc Go.ChangeShapes Go.WideShapes Go.ChangeAt Go.RowKit Go.Joins

theorem own25 : ownKnob Try.prog.godebug = none := by kernel_rfl

/-- A contract's yes, as a row wants it. -/
theorem calls_yes {P : Program} {f : FuncId} {args : List D} (h : Pure P f args (bD true)) (w : World) (vs : List Value) (hr : RelL w (live [] (fun _ => False)) args vs) :
    Calls P f vs.toArray w fun e w' => e = .returned (.bool true) ∧ Below w.heap.size w w' := by
  refine (h.2 w (fun _ => False) vs ⟨fun b c hm => (by cases hm), List.nodup_nil, fun b hb => (by cases hb), fun b hb => hb.elim⟩ hr).mono ?_
  rintro e w' ⟨v, he, d, H', ⟨rfl, rfl⟩, h1, h2, h3⟩
  have hv : v = .bool true := h1
  subst hv
  exact ⟨he, h3.os, h3.tape, h3.output, h3.size, fun k hk => h3.block k hk (by simp [Heap.blocks])⟩

set_option maxRecDepth 100000 in
theorem lifted_OptionShows (os : Os) (started : os.Started) (H : Type) (enc : TypeId × Value → H) :
    ReturnsInHanded {} Try.checked os 4 .any (Rows.optionShowsSpec.pre6 enc Try.prog Try.f4 Rows.optionShowsRow.domain false) (Rows.optionShowsSpec.post enc Try.prog Try.f4 false true false false) := by
  refine returnsInHanded_of_change (C := Try.checked) own25 started (by kernel_rfl) Try.func4
    (ChangeSpec.witness6 (enc := enc) (C := Try.checked) false ⟨#[], #[.agg #[.int .i64 0, .int .i64 0, .int .i64 0, .int .i64 0], .int .i64 0], []⟩ 8 (by kernel_rfl) (by kernel_rfl) (by kernel_rfl) (by kernel_rfl)) ?_
  intro W base args ds gs before hval0 hW hcnd _
  have hval : ∀ (j : Nat) t v, Try.f4.params[j]? = some t → args[j]? = some v → Value.okWide Try.prog W .any base t v := hval0
  have hW' := hW
  obtain ⟨p, q, hA0, hV, rfl, hfz, hnd⟩ := hW
  have hA : DataW.TrodAll enc Try.prog W 0 (fun _ => true) true Try.f4.params.toList args.toList ds p := hA0
  rw [Try.params4] at hA hval
  obtain ⟨v0, v1, d0, d1, p0, p1, rfl, rfl, rfl, h0, h1⟩ := trodAll_two hA
  obtain ⟨rfl, rfl⟩ := trodVars_none hV
  obtain ⟨c0, c1, c2, c3, y0, y1, y2, y3, k, rfl, rfl, rfl, hy0, hy1, hy2, hy3⟩ := open_agg4 Try.underlying24 (by kernel_rfl) (by kernel_rfl) (hval 0 24 v0 rfl rfl) h0
  obtain ⟨m, e0, rfl, wm⟩ := DataW.trod_int Try.underlying3 hy0
  obtain ⟨r, e1, rfl, wr⟩ := DataW.trod_int Try.underlying3 hy1
  obtain ⟨o, e2, rfl, wo⟩ := DataW.trod_int Try.underlying3 hy2
  obtain ⟨b, e3, rfl, wb⟩ := DataW.trod_int Try.underlying3 hy3
  simp at e0 e1 e2 e3
  subst e0 e1 e2 e3
  obtain ⟨n, rfl, rfl, rfl, wn⟩ := open_int Try.underlying3 (hval 1 3 v1 rfl rfl) h1
  clear hA0 hval0
  simp only [List.append_nil] at hW'
  refine (calls_yes (lawShows m r o b n) W [.agg #[.int .i64 m, .int .i64 r, .int .i64 o, .int .i64 b], .int .i64 n]
    ⟨_, _, rfl, ⟨rfl, _, rfl, ⟨_, _, rfl, rfl, _, _, rfl, rfl, _, _, rfl, rfl, _, _, rfl, rfl, rfl⟩⟩, _, _, rfl, rfl, rfl⟩).mono fun e W' ⟨he, hw⟩ => ?_
  subst he
  exact ⟨_, rfl, _, _, _, [], [], [], hW', trodAll_mk1 (shut_bool Try.underlying4 _),
    trodAll_mk2 (p := []) (shut_agg4 Try.underlying24 (by kernel_rfl) (by kernel_rfl) (shut_int Try.underlying3 wm) (shut_int Try.underlying3 wr) (shut_int Try.underlying3 wo) (shut_int Try.underlying3 wb)) (shut_int Try.underlying3 wn), rfl,
    hw.frame _, fun h => by cases h⟩

theorem OptionShows_holds : Rows.OptionShowsSaid :=
  OpenClaim.holds_of_wide 4 Try.f4 rfl rfl rfl rfl rfl rfl rfl ⟨rfl, rfl, rfl, rfl, rfl⟩ rfl rfl rfl rfl rfl (by kernel_rfl) Try.func4 (by kernel_rfl)
    (of_decide_eq_true (by kernel_rfl)) (by unfold Func.isWrapper; first | (rw [if_pos (by decide +kernel)]; kernel_rfl) | (rw [if_neg (by decide +kernel)]; exact ⟨rfl, rfl⟩))
    (fun os started H enc _ => lifted_OptionShows os started H enc)
end Go.Proofs.Ytfldmapafdgpaaa
