/- The law TrailInside. No condition. -/
import Derived.Test.YtomcmfbpmkklmaaGreatDs
import Derived.Test.YtomcmfbpmkklmaaGreatDr
import Derived.Test.YtomcmfbpmkklmaaGreatDd
import Derived.Test.YtomcmfbpmkklmaaGreatDb
import Derived.Test.YtomcmfbpmkklmaaGreatZc
namespace Go.Proofs.YtomcmfbpmkklmaaGreat
set_option maxHeartbeats 16000000
set_option linter.unusedSimpArgs false
set_option linter.unusedVariables false
set_option maxRecDepth 20000
open Go Go.Proofs Go.Vc
attribute [local irreducible] retQ VCg VCw VCx
abbrev askC (g : Cs) (a b : Int) (In : List Bool) : List D := [ints g.st, ints g.ag, ints g.to, iD a, iD b, bools In]
theorem lightG_ok {g : Cs} (h : lightG g = true) : OkG g := by
 simp only [lightG, Bool.and_eq_true, Nat.ble_eq] at h
 exact ⟨by omega, by omega, by omega⟩
theorem goI_len {g : Cs} {In : List Bool} {b : Int} {n : Nat} (hn : nodesG g = n) : ∀ (m i : Nat) (F : List Wy), IW n F → ∀ p, goI g In b m i F = some p → p.length ≤ n
 | 0, i, F, h, p, q => by cases q
 | m + 1, i, F, h, p, q => by
  unfold goI at q
  cases he : F[i]? with
  | none => rw [he] at q; cases q
  | some e =>
   rw [he] at q
   dsimp only at q
   split at q
   ·cases q
    have h1 := h.path i i e (Nat.le_refl _) he
    have h2 := at_lt he
    have h3 := h.len
    omega
   ·have hrow : ∀ (L : List Ed), (∀ d, d ∈ L → 0 ≤ d.2.2 ∧ d.2.2 < n) → ∀ F : List Wy, IW n F → F[i]? = some e → IW n (rowI In e.1 e.2.2.2 F L) := by
     intro L
     induction L with
     | nil => intro _ F h _; exact h
     | cons d L ih =>
      intro hL F h he
      have h1 := h.step he (In := In) (hL d (List.mem_cons_self ..))
      refine ih (fun x hx => hL x (List.mem_cons_of_mem _ hx)) _ h1 ?_
      obtain ⟨X, hX⟩ := stepI_pre In e.1 e.2.2.2 F d
      rw [hX, List.getElem?_append_left (at_lt he)]
      exact he
    exact goI_len hn m (i + 1) _ (hrow _ (fun d hd => by rw [← hn]; exact (outG_to d hd).1) F h he) p q
theorem insI_len {g : Cs} {a b : Int} {In : List Bool} {p : List Int} (h : insI g a b In = some p) : p.length ≤ nodesG g := by
 unfold insI at h
 split at h
 ·rename_i hc
  simp only [Bool.and_eq_true, okI, decide_eq_true_eq] at hc
  exact goI_len rfl _ _ _ (IW.one hc.1.1) p h
 ·cases h
theorem lawInside (g : Cs) (a b : Int) (In : List Bool) (p : List Int) : Pure Tryz.prog 4 [.agg (askC g a b In), ints p] (bD true) := by
 have cl := light14_ok g
 have ck := known16_ok
 refine Fun.of T [.tmp 4] Tryz.func4 rfl Tryz.ntmps4 Tryz.results4 rfl (by kernel_rfl) ?_
 cases hL : lightG g with
 | false =>
  rw [hL] at cl
  repeat' first | refine vb rfl rfl rfl rfl ?_ | refine vs T rfl fun K hK => ?_; (try simp (disch := omega) only [go_sem, Nat.reduceBEq, Nat.reduceAdd, Nat.reduceLeDiff, Bool.not_false]); (first | refine hK _ _ ?_; clear hK K | refine Op1.callp rfl rfl (cl) rfl ?_; refine hK _ _ ?_; clear hK K | refine Op1.callp rfl rfl (ck) rfl ?_; refine hK _ _ ?_; clear hK K) | refine st rfl ?_ | refine sc rfl ?_ | refine nl ?_ | refine gs rfl rfl ?_ | exact ret1 T (List.nil_sublist _) ⟨rfl, rfl⟩
 | true =>
 rw [hL] at cl
 have hg := lightG_ok hL
 have cr := right14_ok g hg
 cases hR : rightG g with
 | false =>
  rw [hR] at cr
  repeat' first | refine vb rfl rfl rfl rfl ?_ | refine vs T rfl fun K hK => ?_; (try simp (disch := omega) only [go_sem, Nat.reduceBEq, Nat.reduceAdd, Nat.reduceLeDiff, Bool.not_false, Bool.not_true]); (first | refine hK _ _ ?_; clear hK K | refine Op1.callp rfl rfl (cl) rfl ?_; refine hK _ _ ?_; clear hK K | refine Op1.callp rfl rfl (cr) rfl ?_; refine hK _ _ ?_; clear hK K | refine Op1.callp rfl rfl (ck) rfl ?_; refine hK _ _ ?_; clear hK K) | refine st rfl ?_ | refine sc rfl ?_ | refine nl ?_ | refine gs rfl rfl ?_ | exact ret1 T (List.nil_sublist _) ⟨rfl, rfl⟩
 | true =>
 rw [hR] at cr
 by_cases h1 : In.length ≤ 100
 case neg =>
  have e1 : decide ((In.length : Int) > 100) = true := decide_eq_true (by omega)
  repeat' first | refine vb rfl rfl rfl rfl ?_ | refine vs T rfl fun K hK => ?_; (try simp (disch := omega) only [go_sem, Nat.reduceBEq, Nat.reduceAdd, Nat.reduceLeDiff, Bool.not_true, bRs_len, e1]); (first | refine hK _ _ ?_; clear hK K | refine Op1.callp rfl rfl (cl) rfl ?_; refine hK _ _ ?_; clear hK K | refine Op1.callp rfl rfl (cr) rfl ?_; refine hK _ _ ?_; clear hK K | refine Op1.callp rfl rfl (ck) rfl ?_; refine hK _ _ ?_; clear hK K) | refine st rfl ?_ | refine sc rfl ?_ | refine nl ?_ | refine gs rfl rfl ?_ | exact ret1 T (List.nil_sublist _) ⟨rfl, rfl⟩
 have e1 : decide ((In.length : Int) > 100) = false := decide_eq_false (by omega)
 by_cases h2 : p.length ≤ 100
 case neg =>
  have e2 : decide ((p.length : Int) > 100) = true := decide_eq_true (by omega)
  repeat' first | refine vb rfl rfl rfl rfl ?_ | refine vs T rfl fun K hK => ?_; (try simp (disch := omega) only [go_sem, Nat.reduceBEq, Nat.reduceAdd, Nat.reduceLeDiff, Bool.not_true, bRs_len, iRs_len, e1, e2]); (first | refine hK _ _ ?_; clear hK K | refine Op1.callp rfl rfl (cl) rfl ?_; refine hK _ _ ?_; clear hK K | refine Op1.callp rfl rfl (cr) rfl ?_; refine hK _ _ ?_; clear hK K | refine Op1.callp rfl rfl (ck) rfl ?_; refine hK _ _ ?_; clear hK K) | refine st rfl ?_ | refine sc rfl ?_ | refine nl ?_ | refine gs rfl rfl ?_ | exact ret1 T (List.nil_sublist _) ⟨rfl, rfl⟩
 have e2 : decide ((p.length : Int) > 100) = false := decide_eq_false (by omega)
 have ci := inside_ok g hg hR a b In (by omega)
 have di := rinside_ok g hg hR a b In (by omega)
 have cf := follow_ok g hg a p (by omega)
 have df := rfollow_ok g hg a p (by omega)
 have hb : nodesG g ≤ 1000000 := by have := hg.st; simp only [nodesG, hR]; omega
 cases hI : insI g a b In with
 | some q =>
  have hq := insI_len hI
  rw [hI] at ci di
  simp only [insWy] at ci di
  have cq := ints_ok q q (by omega) (by omega)
  rw [decide_eq_true rfl] at cq
  repeat' first | refine vb rfl rfl rfl rfl ?_ | refine dr (id := 5) T 20 (by kernel_rfl) ?_ | refine gn ?_ | (first | apply VCg.step T rfl rfl | apply exF); focus ((try simp (disch := omega) only [go_sem, Nat.reduceBEq, Nat.reduceAdd, Nat.reduceLeDiff, beq_self_eq_true]); (first | exact rfl | refine Op1.callp rfl rfl (cf) rfl ?_; exact ⟨rfl, rfl⟩ | refine Op1.callp rfl rfl (cq) rfl ?_; exact ⟨rfl, rfl⟩)) | refine VCg.gstep T rfl rfl rfl rfl ?_; try simp only [GB] | refine vs T rfl fun K hK => ?_; (try simp (disch := omega) only [go_sem, Nat.reduceBEq, Nat.reduceAdd, Nat.reduceLeDiff, Bool.not_true, bRs_len, iRs_len, e1, e2, beq_self_eq_true]); (first | refine hK _ _ ?_; clear hK K | refine Op1.callp rfl rfl (cl) rfl ?_; refine hK _ _ ?_; clear hK K | refine Op1.callp rfl rfl (cr) rfl ?_; refine hK _ _ ?_; clear hK K | refine Op1.callp rfl rfl (ck) rfl ?_; refine hK _ _ ?_; clear hK K | refine Op1.callp rfl rfl (ci) rfl ?_; refine hK _ _ ?_; clear hK K | refine Op1.callp rfl rfl (di) rfl ?_; refine hK _ _ ?_; clear hK K | refine Op1.callp rfl rfl (df) rfl ?_; refine hK _ _ ?_; clear hK K) | refine st rfl ?_ | refine sc rfl ?_ | refine nl ?_ | refine gs rfl rfl ?_ | exact ret1 T (List.nil_sublist _) ⟨rfl, rfl⟩
 | none =>
  rw [hI] at ci di
  simp only [insWy] at ci di
  have cq := ints_ok [] [] (by decide) (by decide)
  rw [decide_eq_true rfl] at cq
  repeat' first | refine vb rfl rfl rfl rfl ?_ | refine dr (id := 5) T 20 (by kernel_rfl) ?_ | refine gn ?_ | (first | apply VCg.step T rfl rfl | apply exF); focus ((try simp (disch := omega) only [go_sem, Nat.reduceBEq, Nat.reduceAdd, Nat.reduceLeDiff, beq_self_eq_true]); (first | exact rfl | refine Op1.callp rfl rfl (cf) rfl ?_; exact ⟨rfl, rfl⟩ | refine Op1.callp rfl rfl (cq) rfl ?_; exact ⟨rfl, rfl⟩)) | refine VCg.gstep T rfl rfl rfl rfl ?_; try simp only [GB] | refine vs T rfl fun K hK => ?_; (try simp (disch := omega) only [go_sem, Nat.reduceBEq, Nat.reduceAdd, Nat.reduceLeDiff, Bool.not_true, bRs_len, iRs_len, e1, e2, beq_self_eq_true]); (first | refine hK _ _ ?_; clear hK K | refine Op1.callp rfl rfl (cl) rfl ?_; refine hK _ _ ?_; clear hK K | refine Op1.callp rfl rfl (cr) rfl ?_; refine hK _ _ ?_; clear hK K | refine Op1.callp rfl rfl (ck) rfl ?_; refine hK _ _ ?_; clear hK K | refine Op1.callp rfl rfl (ci) rfl ?_; refine hK _ _ ?_; clear hK K | refine Op1.callp rfl rfl (di) rfl ?_; refine hK _ _ ?_; clear hK K | refine Op1.callp rfl rfl (df) rfl ?_; refine hK _ _ ?_; clear hK K) | refine st rfl ?_ | refine sc rfl ?_ | refine nl ?_ | refine gs rfl rfl ?_ | exact ret1 T (List.nil_sublist _) ⟨rfl, rfl⟩
end Go.Proofs.YtomcmfbpmkklmaaGreat
/- The statement of TrailInside. No condition. -/
namespace Go.Proofs.YtomcmfbpmkklmaaGreat
set_option maxHeartbeats 16000000
set_option linter.unusedSimpArgs false
set_option linter.unusedVariables false
open Go Go.Proofs Go.Vc Go.ChangeShapes Go.WideShapes Go.ChangeAt Go.RowKit Go.Joins
theorem sh_bools {d : D} (h : Sh (.sl [.bool]) d) : ∃ l : List Bool, d = bools l := by
 obtain ⟨rows, rfl, _, h3⟩ := h
 obtain ⟨l, rfl⟩ := rows_all (fun n : Bool => [bD n]) (fun r => ShL [.bool] r) (fun r h => by
  obtain ⟨_, _, rfl, ⟨n, rfl⟩, h⟩ := h
  rw [ShL] at h; subst h
  exact ⟨n, rfl⟩) rows h3
 exact ⟨l, rfl⟩
theorem lawTrailInside_all (Ds : List D) (h : ShA [.many [.sl [.int .i64], .sl [.int .i64], .sl [.int .i64], .int .i64, .int .i64, .sl [.bool]], .one (.sl [.int .i64])] Ds) : Pure Tryz.prog 4 Ds (bD true) := by
 obtain ⟨_, _, rfl, h, _, _, rfl, h5, h2⟩ := h
 rw [ShA] at h2; subst h2
 obtain ⟨_, _, rfl, h1, _, _, rfl, h2, _, _, rfl, h3, _, _, rfl, ⟨a, rfl, _⟩, _, _, rfl, ⟨b, rfl, _⟩, _, _, rfl, h4, h⟩ := h
 rw [ShL] at h; subst h
 obtain ⟨st, rfl⟩ := sh_ints h1
 obtain ⟨ag, rfl⟩ := sh_ints h2
 obtain ⟨to, rfl⟩ := sh_ints h3
 obtain ⟨In, rfl⟩ := sh_bools h4
 obtain ⟨p, rfl⟩ := sh_ints h5
 exact lawInside ⟨st, ag, to⟩ a b In p
set_option maxRecDepth 100000 in
theorem lifted_TrailInside (os : Os) (started : os.Started) (H : Type) (enc : TypeId × Value → H) :
  ReturnsInHanded {} Tryz.checked os 4 .any (Rows.trailInsideSpec.pre6 enc Tryz.prog Tryz.f4 Rows.trailInsideRow.domain false) (Rows.trailInsideSpec.post enc Tryz.prog Tryz.f4 false true false false) := by
 refine returnsInHanded_of_change (C := Tryz.checked) ownK started (by kernel_rfl) Tryz.func4
  (ChangeSpec.witness6 (enc := enc) (C := Tryz.checked) false ⟨#[], #[.agg #[.slice none 0 0, .slice none 0 0, .slice none 0 0, .int .i64 0, .int .i64 0, .slice none 0 0], .slice none 0 0], []⟩ 12 (by kernel_rfl) (by kernel_rfl) (by kernel_rfl) (by kernel_rfl)) ?_
 intro W base args ds gs before hval0 hW hcnd _
 have hval : ∀ (j : Nat) t v, Tryz.f4.params[j]? = some t → args[j]? = some v → Value.okWide Tryz.prog W .any base t v := hval0
 have hW' := hW
 obtain ⟨p, q, hA0, hV, rfl, hfz, hnd⟩ := hW
 have hA : DataW.TrodAll enc Tryz.prog W 0 (fun _ => true) true Tryz.f4.params.toList args.toList ds p := hA0
 obtain ⟨rfl, rfl⟩ := trodVars_none hV
 obtain ⟨Ds, hS, hR⟩ := open_args (L := live [] (fun _ => False)) (fun b hb => hb.elim id (fun h => by cases h)) _ _ _ _ [.many [.sl [.int .i64], .sl [.int .i64], .sl [.int .i64], .int .i64, .int .i64, .sl [.bool]], .one (.sl [.int .i64])] hA
  (fun j t v h1 h2 => hval j t v (by simpa using h1) (by simpa using h2)) (by kernel_rfl)
 obtain ⟨d0, d1, rfl⟩ := spine2 (trodAll_len _ _ _ _ hA)
 simp only [List.append_nil] at hW'
 have hlt : ∀ x ∈ p, x.block < W.heap.size := fun x hx => by simpa using hW'.lt x hx
 refine (calls_yes (lawTrailInside_all Ds hS) W args.toList hR).mono fun e W' ⟨he, hw⟩ => ?_
 subst he
 exact ⟨_, rfl, _, _, _, [], p, [], hW', trodAll_mk1 (shut_bool Tryz.underlying4 _), shut_args (by kernel_rfl) hw _ _ _ _ (by kernel_rfl) hA hlt, rfl, hw.frame _, fun h => by cases h⟩
theorem TrailInside_holds : Rows.TrailInsideSaid :=
 OpenClaim.holds_of_wide 4 Tryz.f4 rfl rfl rfl rfl rfl rfl rfl ⟨rfl, rfl, rfl, rfl, rfl⟩ rfl rfl rfl rfl rfl (by kernel_rfl) Tryz.func4 (by kernel_rfl)
  (of_decide_eq_true (by kernel_rfl)) (by unfold Func.isWrapper; first | (rw [if_pos (by decide +kernel)]; kernel_rfl) | (rw [if_neg (by decide +kernel)]; exact ⟨rfl, rfl⟩))
  (fun os started H enc _ => lifted_TrailInside os started H enc)
end Go.Proofs.YtomcmfbpmkklmaaGreat
