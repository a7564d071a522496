/- Cases as arguments. No condition. -/
import Derived.Test.YtomcmfbpmkklmaaGreatZa
import Derived.Test.YtomcmfbpmkklmaaGreatRows
import Derived.Test.YtomcmfbpmkklmaaGreatK1
import Derived.ProofKit
import Derived.OpenShut
import Derived.Lib.SmallJoins
import Derived.Test.YtomcmfbpmkklmaaGreatRj
namespace Go.Proofs.YtomcmfbpmkklmaaGreat
set_option linter.unusedSimpArgs false
set_option linter.unusedVariables false
open Go Go.Proofs Go.Vc Go.ChangeShapes Go.WideShapes Go.ChangeAt Go.RowKit Go.Joins
theorem ownK : ownKnob Tryz.prog.godebug = none := by kernel_rfl
theorem calls_yes {P : Program} {f : FuncId} {args : List D} (h : Pure P f args (bD true)) (w : World) (vs : List Value) (hr : RelL w (live [] (fun _ => False)) args vs) :
  Calls P f vs.toArray w fun e w' => e = .returned (.bool true) ∧ Below w.heap.size w w' := by
 refine (h.2 w (fun _ => False) vs ⟨fun b c hm => (by cases hm), List.nodup_nil, fun b hb => (by cases hb), fun b hb => hb.elim⟩ hr).mono ?_
 rintro e w' ⟨v, he, d, H', ⟨rfl, rfl⟩, h1, h2, h3⟩
 have hv : v = .bool true := h1
 subst hv
 exact ⟨he, h3.os, h3.tape, h3.output, h3.size, fun k hk => h3.block k hk (by simp [Heap.blocks])⟩
theorem rows_all {α : Type} (f : α → List D) (Q : List D → Prop) (h : ∀ r, Q r → ∃ x, r = f x) : ∀ (rows : List (List D)), (∀ r, r ∈ rows → Q r) → ∃ b : List α, rows = b.map f
 | [], _ => ⟨[], rfl⟩
 | r :: rs, hr => by
  obtain ⟨b, rfl⟩ := rows_all f Q h rs fun r hr' => hr r (List.mem_cons_of_mem _ hr')
  obtain ⟨x, rfl⟩ := h r (hr r (List.mem_cons_self ..))
  exact ⟨x :: b, rfl⟩
theorem row_int (r : List D) (h : ShL [.int .i64] r) : ∃ n : Int, r = [iD n] := by
 obtain ⟨_, _, rfl, ⟨n, rfl, _⟩, h⟩ := h
 rw [ShL] at h; subst h
 exact ⟨n, rfl⟩
theorem sh_ints {d : D} (h : Sh (.sl [.int .i64]) d) : ∃ l : List Int, d = ints l := by
 obtain ⟨rows, rfl, _, h⟩ := h
 obtain ⟨l, rfl⟩ := rows_all (fun n : Int => [iD n]) _ row_int rows h
 exact ⟨l, rfl⟩
theorem sh_ops {d : D} (h : Sh (.sl [.int .i64, .int .i64, .int .i64]) d) : ∃ l : List Opc, d = opsD l := by
 obtain ⟨rows, rfl, _, h⟩ := h
 obtain ⟨l, rfl⟩ := rows_all opR _ (fun r h => by
  obtain ⟨_, _, rfl, ⟨n1, rfl, _⟩, _, _, rfl, ⟨n2, rfl, _⟩, _, _, rfl, ⟨n3, rfl, _⟩, h⟩ := h
  rw [ShL] at h; subst h
  exact ⟨(n1, n2, n3), rfl⟩) rows h
 exact ⟨l, rfl⟩
abbrev opsT : Ty := .sl [.int .i64, .int .i64, .int .i64]
abbrev insT : List Ty := [.int .i64, .int .i64, .int .i64, opsT, opsT, .bool, .int .i64]
theorem sh_row {r : List D} (h : ShL [.sl insT] r) : ∃ l : List Ins, r = [.sl false 7 (insRs l)] := by
 obtain ⟨_, _, rfl, ⟨rows, rfl, _, hr⟩, h⟩ := h
 rw [ShL] at h; subst h
 obtain ⟨l, rfl⟩ := rows_all insR _ (fun r h => by
  obtain ⟨_, _, rfl, ⟨n1, rfl, _⟩, _, _, rfl, ⟨n2, rfl, _⟩, _, _, rfl, ⟨n3, rfl, _⟩, _, _, rfl, h4, _, _, rfl, h5, _, _, rfl, ⟨b, rfl⟩, _, _, rfl, ⟨n4, rfl, _⟩, h⟩ := h
  rw [ShL] at h; subst h
  obtain ⟨e, rfl⟩ := sh_ops h4
  obtain ⟨f, rfl⟩ := sh_ops h5
  exact ⟨⟨n1, n2, n3, e, f, b, n4⟩, rfl⟩) rows hr
 exact ⟨l, rfl⟩
end Go.Proofs.YtomcmfbpmkklmaaGreat
