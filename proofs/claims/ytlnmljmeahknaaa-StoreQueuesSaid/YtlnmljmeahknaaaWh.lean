/- The statement of StoreNone. No condition. -/
import Derived.Test.YtlnmljmeahknaaaWg
import Derived.Test.YtlnmljmeahknaaaRows
import Derived.Test.YtlnmljmeahknaaaVy
import Derived.ProofKit
import Derived.OpenShut
import Derived.Lib.SmallJoins
namespace Go.Proofs.Ytlnmljmeahknaaa
set_option linter.unusedSimpArgs false
set_option linter.unusedVariables false
open Go Go.Proofs Go.Vc Go.ChangeShapes Go.WideShapes Go.ChangeAt Go.RowKit Go.Joins

theorem ownK : ownKnob Try.prog.godebug = none := by kernel_rfl

/-- A contract's yes, as a row wants it. -/
theorem calls_yes {P : Program} {f : FuncId} {args : List D} (h : Pure P f args (bD true)) (w : World) (vs : List Value) (hr : RelL w (live [] (fun _ => False)) args vs) :
    Calls P f vs.toArray w fun e w' => e = .returned (.bool true) ∧ Below w.heap.size w w' := by
  refine (h.2 w (fun _ => False) vs ⟨fun b c hm => (by cases hm), List.nodup_nil, fun b hb => (by cases hb), fun b hb => hb.elim⟩ hr).mono ?_
  rintro e w' ⟨v, he, d, H', ⟨rfl, rfl⟩, h1, h2, h3⟩
  have hv : v = .bool true := h1
  subst hv
  exact ⟨he, h3.os, h3.tape, h3.output, h3.size, fun k hk => h3.block k hk (by simp [Heap.blocks])⟩

theorem rows_en : ∀ (rows : List (List D)), (∀ r, r ∈ rows → ShL [.int .i64, .int .i64] r) → ∃ b : List En, rows = eRs b
  | [], _ => ⟨[], rfl⟩
  | r :: rs, h => by
    obtain ⟨b, rfl⟩ := rows_en rs fun r hr => h r (List.mem_cons_of_mem _ hr)
    obtain ⟨_, _, rfl, ⟨n1, rfl, _⟩, _, _, rfl, ⟨n2, rfl, _⟩, h1⟩ := h r (List.mem_cons_self ..)
    rw [ShL] at h1
    subst h1
    exact ⟨(n1, n2) :: b, rfl⟩

theorem lawNone_all (Ds : List D) (h : ShA [.one (.sl [.int .i64, .int .i64]), .many [.int .i64, .int .i64], .one (.int .i64)] Ds) : Pure Try.prog 4 Ds (bD true) := by
  obtain ⟨_, _, rfl, ⟨rows, rfl, _, hr⟩, m, _, rfl, h1, _, _, rfl, ⟨n, rfl, _⟩, h2⟩ := h
  rw [ShA] at h2
  subst h2
  obtain ⟨b, rfl⟩ := rows_en rows hr
  obtain ⟨_, _, rfl, ⟨n1, rfl, _⟩, _, _, rfl, ⟨n2, rfl, _⟩, h1⟩ := h1
  rw [ShL] at h1
  subst h1
  exact lawNone b n1 n2 n

set_option maxRecDepth 100000 in
theorem lifted_StoreNone (os : Os) (started : os.Started) (H : Type) (enc : TypeId × Value → H) :
    ReturnsInHanded {} Try.checked os 4 .any (Rows.storeNoneSpec.pre6 enc Try.prog Try.f4 Rows.storeNoneRow.domain false) (Rows.storeNoneSpec.post enc Try.prog Try.f4 false true false false) := by
  refine returnsInHanded_of_change (C := Try.checked) ownK started (by kernel_rfl) Try.func4
    (ChangeSpec.witness6 (enc := enc) (C := Try.checked) false ⟨#[], #[.slice none 0 0, .agg #[.int .i64 0, .int .i64 0], .int .i64 0], []⟩ 12 (by kernel_rfl) (by kernel_rfl) (by kernel_rfl) (by kernel_rfl)) ?_
  intro W base args ds gs before hval0 hW hcnd _
  have hval : ∀ (j : Nat) t v, Try.f4.params[j]? = some t → args[j]? = some v → Value.okWide Try.prog W .any base t v := hval0
  have hW' := hW
  obtain ⟨p, q, hA0, hV, rfl, hfz, hnd⟩ := hW
  have hA : DataW.TrodAll enc Try.prog W 0 (fun _ => true) true Try.f4.params.toList args.toList ds p := hA0
  obtain ⟨rfl, rfl⟩ := trodVars_none hV
  obtain ⟨Ds, hS, hR⟩ := open_args (L := live [] (fun _ => False)) (fun b hb => hb.elim id (fun h => by cases h)) _ _ _ _ [.one (.sl [.int .i64, .int .i64]), .many [.int .i64, .int .i64], .one (.int .i64)] hA
    (fun j t v h1 h2 => hval j t v (by simpa using h1) (by simpa using h2)) (by kernel_rfl)
  obtain ⟨d0, d1, d2, rfl⟩ := spine3 (trodAll_len _ _ _ _ hA)
  simp only [List.append_nil] at hW'
  have hlt : ∀ x ∈ p, x.block < W.heap.size := fun x hx => by simpa using hW'.lt x hx
  refine (calls_yes (lawNone_all Ds hS) W args.toList hR).mono fun e W' ⟨he, hw⟩ => ?_
  subst he
  exact ⟨_, rfl, _, _, _, [], p, [], hW', trodAll_mk1 (shut_bool Try.underlying4 _), shut_args (by kernel_rfl) hw _ _ _ _ (by kernel_rfl) hA hlt, rfl, hw.frame _, fun h => by cases h⟩

theorem StoreNone_holds : Rows.StoreNoneSaid :=
  OpenClaim.holds_of_wide 4 Try.f4 rfl rfl rfl rfl rfl rfl rfl ⟨rfl, rfl, rfl, rfl, rfl⟩ rfl rfl rfl rfl rfl (by kernel_rfl) Try.func4 (by kernel_rfl)
    (of_decide_eq_true (by kernel_rfl)) (by unfold Func.isWrapper; first | (rw [if_pos (by decide +kernel)]; kernel_rfl) | (rw [if_neg (by decide +kernel)]; exact ⟨rfl, rfl⟩))
    (fun os started H enc _ => lifted_StoreNone os started H enc)
end Go.Proofs.Ytlnmljmeahknaaa
