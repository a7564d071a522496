/- The walk of MachineRuns. No condition. -/
import Derived.Test.YtlnmljmeahknaaaRj
import Derived.Test.YtlnmljmeahknaaaZq
import Derived.Test.YtlnmljmeahknaaaRr
namespace Go.Proofs.Ytlnmljmeahknaaa
set_option linter.unusedSimpArgs false
set_option linter.unusedVariables false
set_option maxRecDepth 20000
open Go Go.Proofs Go.Vc

/-- Where a program begins can be. -/
theorem start_right {u : Un} (hu : OkU u) (hU : unitB u = true) {m r : Int} (hm : 1 ≤ m ∧ m ≤ 3) (hr : 1 ≤ r ∧ r ≤ 4) : Rt u (startC u) m r := by
  have hU' := hU
  simp only [unitB, headB, Bool.and_eq_true, decide_eq_true_eq, List.all_eq_true] at hU'
  obtain ⟨⟨⟨⟨⟨⟨⟨a1, a2⟩, a3⟩, a4⟩, a5⟩, a6⟩, a7⟩, a8⟩ := hU'
  have hnil : rightR m r u.md u.init.length [] = true := rightR_iff.2 ⟨by simp only [gateR, Bool.and_eq_true, decide_eq_true_eq]; omega, { el := fun e he => (by cases he), p3 := fun _ => ⟨trivial, fun l => (by show ((0 : Nat) : Int) ≤ r; omega)⟩, p2 := fun _ => (by show ((0 : Nat) : Int) ≤ r; omega), p1 := fun _ => rfl }⟩
  refine rt_of hu (rightC_iff.2 ⟨hU, ⟨by simp [startC], by simp [startC], by simp [startC], rfl⟩, a3, fun t ht => ?_, hnil⟩)
  obtain ⟨n, hn⟩ : ∃ n, u.regs[t]? = some n := ⟨_, List.getElem?_eq_getElem ht⟩
  have hn0 := unitB_regs hU hn
  have h8 := a8 t (List.mem_range.2 ht)
  simp only [rowB, Bool.and_eq_true, decide_eq_true_eq] at h8
  refine thrB_iff.2 ⟨?_, ⟨?_, ?_⟩, ?_⟩
  · have : (startC u).pc.getD t 0 = 0 := by simp [startC, List.getD_eq_getElem?_getD, ht]
    rw [this]
    omega
  · simp [startC, List.getD_eq_getElem?_getD, hn]
    omega
  · have : (startC u).regs.getD t [] = List.replicate n.toNat 0 := by simp [startC, List.getD_eq_getElem?_getD, hn]
    rw [this, allB, List.all_eq_true]
    intro x hx
    rw [List.eq_of_mem_replicate hx]
    exact inB_spec.2 ⟨by omega, by omega⟩
  · have : (startC u).bufs.getD t [] = [] := by simp [startC, List.getD_eq_getElem?_getD, ht]
    rw [this]
    exact hnil
theorem Rt.actM {u : Un} {c : Cf} {m r : Int} (h : Rt u c m r) (a : Int) : Rt u (actM u c m r a) m r := by
  unfold Go.Proofs.Ytlnmljmeahknaaa.actM
  split
  · rename_i ag _
    cases ag with
    | th t => exact h.act (t : Nat)
    | fl t l => exact h.flush (t : Nat) l
  · exact h
theorem actM_no {u : Un} {c : Cf} {m r a : Int} (h : enM u c m r a = false) : actM u c m r a = c := by
  unfold enM at h
  unfold actM
  split
  · rename_i ag ho
    rw [ho] at h
    cases ag with
    | th t => exact actT_no h
    | fl t l =>
      have h : flushB c m (t : Nat) l = false := h
      show flushC c m (t : Nat) l = c
      unfold flushC
      rw [h]
  · rfl

abbrev uD (n : Int) : D := .is (.int .u8 n)
def byR (l : List Int) : List (List D) := l.map fun n => [uD n]
theorem byR_len (l : List Int) : (byR l).length = l.length := List.length_map ..
theorem byR_at (l : List Int) (i : Nat) : (byR l)[i]? = (l[i]?).map fun n => [uD n] := List.getElem?_map ..

set_option maxHeartbeats 8000000 in
theorem lawRuns (u : Un) (a b : Int) (ha : 0 ≤ a ∧ a ≤ 255) (hb : 0 ≤ b ∧ b ≤ 255) (s : List Int) (hs : ∀ n, n ∈ s → 0 ≤ n ∧ n ≤ 255) (hsl : s.length ≤ 9223372036854775807) : Pure Try.prog 13 [.agg (unC u), .agg [uD a, uD b], .sl false 1 (byR s)] (bD true) := by
  have cu := ulight_ok u
  have ck := known11_ok
  refine Fun.of T [.tmp 6] Try.func13 rfl Try.ntmps13 Try.results13 rfl (by kernel_rfl) ?_
  cases hL : lightU u with
  | false =>
    rw [hL] at cu
    repeat' first | refine VCo.stepO rfl rfl (fun K hK => r_boxR (t := 42) rfl rfl rfl (hK _ _ ?_)); (try simp only [updO]) | (refine VCo.step T rfl rfl (fun K hK => ?_)); (try simp (disch := omega) only [WB, argE, Nat.reduceBEq, Nat.reduceAdd, Nat.reduceLeDiff, T42, Bool.not_false]); (first | refine hK _ _ ?_; clear hK K | intro bq hbq; (try simp only [HB] at hbq); refine hK _ _ ?_; clear hK K | refine Op1.callp rfl rfl (cu) rfl ?_; refine hK _ _ ?_; clear hK K | refine Op1.callp rfl rfl (ck) rfl ?_; refine hK _ _ ?_; clear hK K) | refine VCo.gstep rfl rfl rfl rfl rfl ?_; try simp only [GB] | refine VC.region ?_ | refine VC.seq' ?_ | (first | refine VCo.nil ?_ | refine VC.ret ?_); (try simp only [QB]) | refine ret1 T (List.nil_sublist _) ?_; (try simp only [upd, Nat.reduceBEq, cond_true, cond_false, and_true]) | refine VC.cond rfl ?_; (try simp only [gsplit_true])
  | true =>
  rw [hL] at cu
  have hu := okU_light hL
  have cr := right07_ok u hu
  cases hU : unitB u with
  | false =>
    rw [hU] at cr
    repeat' first | refine VCo.stepO rfl rfl (fun K hK => r_boxR (t := 42) rfl rfl rfl (hK _ _ ?_)); (try simp only [updO]) | (first | refine VCo.step T rfl rfl (fun K hK => ?_) | refine VCr.step T rfl (fun K hK => ?_)); (try simp (disch := omega) only [WB, argE, Nat.reduceBEq, Nat.reduceAdd, Nat.reduceLeDiff, T42, Bool.not_true, Bool.not_false]); (first | refine hK _ _ ?_; clear hK K | intro bq hbq; (try simp only [HB] at hbq); refine hK _ _ ?_; clear hK K | refine Op1.callp rfl rfl (cu) rfl ?_; refine hK _ _ ?_; clear hK K | refine Op1.callp rfl rfl (cr) rfl ?_; refine hK _ _ ?_; clear hK K | refine Op1.callp rfl rfl (ck) rfl ?_; refine hK _ _ ?_; clear hK K) | refine VCo.gstep rfl rfl rfl rfl rfl ?_; try simp only [GB] | refine VC.region ?_ | refine VC.seq' ?_ | (first | refine VCo.nil ?_ | refine VC.ret ?_); (try simp only [QB]) | refine ret1 T (List.nil_sublist _) ?_; (try simp only [upd, Nat.reduceBEq, cond_true, cond_false, and_true]) | refine VC.cond rfl ?_; (try simp only [gsplit_true])
  | true =>
  rw [hU] at cr
  have wa : IntKind.i64.wrap a = a := w64 (by omega)
  have wb : IntKind.i64.wrap b = b := w64 (by omega)
  have ra : a.tmod 3 = a % 3 := rem_pos (by omega)
  have rb : b.tmod 4 = b % 4 := rem_pos (by omega)
  have wm : IntKind.i64.wrap (1 + a % 3) = 1 + a % 3 := w64 (by omega)
  have wr : IntKind.i64.wrap (1 + b % 4) = 1 + b % 4 := w64 (by omega)
  have h0 := start_right hu hU (m := 1 + a % 3) (r := 1 + b % 4) (by omega) (by omega)
  generalize hm : 1 + a % 3 = m at *
  generalize hr : 1 + b % 4 = r at *
  have c1 := start_ok u hu hU
  have c2 := agentsN_ok u hu m
  have hpos : (agsF u m).length ≠ 0 := by
    rw [agsF, if_pos ⟨hU, by omega, by omega⟩, allF, List.length_append, thsF_len]
    have := unit_lens hU
    omega
  have hlen := agsF_len u m
  generalize (agsF u m).length = n at *
  have b0 : ((n : Int) == 0) = false := beq_eq_false_iff_ne.2 (by omega)
  generalize startC u = c0 at *
  repeat' first | refine VCo.stepO rfl rfl (fun K hK => r_boxR (t := 42) rfl rfl rfl (hK _ _ ?_)); (try simp only [updO]) | refine VCo.stepO rfl rfl (fun K hK => r_indexA T rfl rfl rfl rfl (by decide) (hK _ _ ?_)); (try simp only [updO]) | (first | refine VCo.step T rfl rfl (fun K hK => ?_) | refine VCr.step T rfl (fun K hK => ?_)); (try simp (disch := omega) only [WB, argE, setL, Nat.reduceBEq, Nat.reduceAdd, Nat.reduceMul, Nat.reduceLeDiff, Int.reduceToNat, T3, T5, T42, T46, wa, wb, ra, rb, hm, hr, wm, wr, b0, Bool.not_true]); (first | refine hK _ _ ?_; clear hK K | intro bq hbq; (try simp only [HB] at hbq); refine hK _ _ ?_; clear hK K | refine ⟨?_, hK _ _ ?_⟩ <;> clear hK K; focus (try omega) | refine Op1.callp rfl rfl (cu) rfl ?_; refine hK _ _ ?_; clear hK K | refine Op1.callp rfl rfl (cr) rfl ?_; refine hK _ _ ?_; clear hK K | refine Op1.callp rfl rfl (c1) rfl ?_; refine hK _ _ ?_; clear hK K | refine Op1.callp rfl rfl (c2) rfl ?_; refine hK _ _ ?_; clear hK K) | refine VCo.gstep rfl rfl rfl rfl rfl ?_; try simp only [GB] | refine VC.region ?_ | refine VC.seq' ?_ | refine VC.block ?_ | (first | refine VCo.nil ?_ | refine VC.skip ?_); (try simp only [QB]) | refine VC.cond rfl ?_; (try simp only [gsplit_false])
  refine VC.loop {p : Nat × Cf // p.1 ≤ s.length ∧ p.1 ≤ 40 ∧ Rt u p.2 m r} (fun p => ⟨lookD [(2, .sl false 1 (byR s)), (3, .pt (unC u)), (7, iD m), (8, iD r), (9, pD bq), (11, iD (n : Nat)), (12, iD (p.1.1 : Nat))], [(bq, .cells 46 4 (cfC p.1.2))]⟩) (fun p => s.length - p.1.1) ⟨(0, c0), by dsimp only; omega, by dsimp only; omega, h0⟩ ?_ ?_
  · refine Weak.subH (.cons_cons _ (List.nil_sublist _)) ?_
    simp [sub, upd]
  clear h0 c1 c2 cu
  rintro ⟨⟨k, c⟩, hk1, hk2, h⟩
  dsimp only at hk1 hk2 h ⊢
  by_cases hlt : k < s.length
  case neg =>
    have hd : decide ((k : Int) < (s.length : Int)) = false := decide_eq_false (by omega)
    repeat' first | (refine VCo.step T rfl rfl (fun K hK => ?_)); (try simp (disch := omega) only [WB, lookD, Nat.reduceBEq, T3, T76, hd, byR_len]); (first | refine hK _ _ ?_; clear hK K | refine Op1.callp rfl rfl (ck) rfl ?_; refine hK _ _ ?_; clear hK K) | refine VCo.gstep rfl rfl rfl rfl rfl ?_; try simp only [GB] | refine VC.region ?_ | refine VC.seq' ?_ | (first | refine VCo.nil ?_ | refine VC.ret ?_ | refine VC.exit ?_); (try simp only [QB]) | refine ret1 T (List.nil_sublist _) ?_; (try simp only [upd, Nat.reduceBEq, cond_true, cond_false, and_true]) | refine VC.cond rfl ?_; (try simp only [gsplit_false])
  have hd : decide ((k : Int) < (s.length : Int)) = true := decide_eq_true (by omega)
  by_cases h40 : k < 40
  case neg =>
    have h4 : decide ((k : Int) < 40) = false := decide_eq_false (by omega)
    repeat' first | (first | refine VCo.step T rfl rfl (fun K hK => ?_) | refine VCr.step T rfl (fun K hK => ?_)); (try simp (disch := omega) only [WB, lookD, Nat.reduceBEq, T3, T76, hd, h4, byR_len]); (first | refine hK _ _ ?_; clear hK K | refine Op1.callp rfl rfl (ck) rfl ?_; refine hK _ _ ?_; clear hK K) | refine VCo.gstep rfl rfl rfl rfl rfl ?_; try simp only [GB] | refine VC.region ?_ | refine VC.seq' ?_ | (first | refine VCo.nil ?_ | refine VC.ret ?_ | refine VC.exit ?_); (try simp only [QB]) | refine ret1 T (List.nil_sublist _) ?_; (try simp only [upd, Nat.reduceBEq, cond_true, cond_false, and_true]) | refine VC.cond rfl ?_; (try simp only [gsplit_false])
  have h4 : decide ((k : Int) < 40) = true := decide_eq_true (by omega)
  have hw : IntKind.i64.wrap ((k : Int) + 1) = ((k + 1 : Nat) : Int) := by rw [w64 (by omega)]; omega
  obtain ⟨x, hx⟩ : ∃ x, s[k]? = some x := ⟨_, List.getElem?_eq_getElem hlt⟩
  have hx0 := hs x (List.mem_of_getElem? hx)
  have rx : (byR s)[k]? = some [uD x] := by rw [byR_at, hx]; rfl
  have wx : IntKind.i64.wrap x = x := w64 (by omega)
  have hnz : (n : Int) ≠ 0 := by omega
  have c1 := enM_ok h (x.tmod (n : Int))
  have c2 := actM_ok h (x.tmod (n : Int))
  have hA := h.actM (x.tmod (n : Int))
  have c4 : enM u c m r (x.tmod (n : Int)) = false → Pure Try.prog 28 [.agg (cfC c), .agg (cfC (actM u c m r (x.tmod (n : Int))))] (bD true) := fun e => by
    rw [actM_no e]
    have := rsame_ok c c h.okC h.okC
    rwa [sameC_refl] at this
  generalize actM u c m r (x.tmod (n : Int)) = d at *
  have c3 := right09_ok u hu d hA.okC m r
  rw [hA.rt] at c3
  cases hE : enM u c m r (x.tmod (n : Int))
  all_goals rw [hE] at c1 c2
  case' false =>
    have c4 := c4 hE
    repeat' first | (first | refine VCo.step T rfl rfl (fun K hK => ?_) | refine VCr.step T rfl (fun K hK => ?_)); (try simp (disch := omega) only [WB, lookD, setL, Nat.reduceBEq, Nat.reduceAdd, Nat.reduceLeDiff, T3, T4, T5, T42, T46, T76, hd, h4, hw, rx, wx, byR_len, bne_self_eq_false, Bool.not_true, Bool.not_false]); (first | refine hK _ _ ?_; clear hK K | intro bq hbq; (try simp only [HB] at hbq); refine hK _ _ ?_; clear hK K | refine ⟨?_, hK _ _ ?_⟩ <;> clear hK K; focus (try omega) | refine Op1.callp rfl rfl (c1) rfl ?_; refine hK _ _ ?_; clear hK K | refine Op1.callp rfl rfl (c2) rfl ?_; refine hK _ _ ?_; clear hK K | refine Op1.callp rfl rfl (c3) rfl ?_; refine hK _ _ ?_; clear hK K | refine Op1.callp rfl rfl (c4) rfl ?_; refine hK _ _ ?_; clear hK K) | refine VCo.gstep rfl rfl rfl rfl rfl ?_; try simp only [GB] | refine VC.region ?_ | refine VC.seq' ?_ | refine VC.block ?_ | (first | refine VCo.nil ?_ | refine VC.skip ?_); (try simp only [QB]) | refine VC.cond rfl ?_; (try simp only [gsplit_true, gsplit_false])
  case' true =>
    repeat' first | (first | refine VCo.step T rfl rfl (fun K hK => ?_) | refine VCr.step T rfl (fun K hK => ?_)); (try simp (disch := omega) only [WB, lookD, setL, Nat.reduceBEq, Nat.reduceAdd, Nat.reduceLeDiff, T3, T4, T5, T42, T46, T76, hd, h4, hw, rx, wx, byR_len, bne_self_eq_false, Bool.not_true]); (first | refine hK _ _ ?_; clear hK K | intro bq hbq; (try simp only [HB] at hbq); refine hK _ _ ?_; clear hK K | refine ⟨?_, hK _ _ ?_⟩ <;> clear hK K; focus (try omega) | refine Op1.callp rfl rfl (c1) rfl ?_; refine hK _ _ ?_; clear hK K | refine Op1.callp rfl rfl (c2) rfl ?_; refine hK _ _ ?_; clear hK K | refine Op1.callp rfl rfl (c3) rfl ?_; refine hK _ _ ?_; clear hK K) | refine VCo.gstep rfl rfl rfl rfl rfl ?_; try simp only [GB] | refine VC.region ?_ | refine VC.seq' ?_ | refine VC.block ?_ | (first | refine VCo.nil ?_ | refine VC.skip ?_); (try simp only [QB]) | refine VC.cond rfl ?_; (try simp only [gsplit_true, gsplit_false])
  all_goals
    refine ⟨⟨(k + 1, d), by dsimp only; omega, by dsimp only; omega, hA⟩, Weak.subH (List.sublist_cons_self _ _) ?_, by dsimp only; omega⟩
    simp [sub, upd]
end Go.Proofs.Ytlnmljmeahknaaa
/- The statement of MachineRuns. No condition. -/
namespace Go.Proofs.Ytlnmljmeahknaaa
set_option linter.unusedSimpArgs false
set_option linter.unusedVariables false
open Go Go.Proofs Go.Vc Go.ChangeShapes Go.WideShapes Go.ChangeAt Go.RowKit Go.Joins

theorem lawMachineRuns_all (Ds : List D) (h : ShA [.many unitT, .many [.int .u8, .int .u8], .one (.sl [.int .u8])] Ds) : Pure Try.prog 13 Ds (bD true) := by
  obtain ⟨_, _, rfl, h1, _, _, rfl, h2, _, _, rfl, ⟨rows, rfl, hl, hr⟩, h3⟩ := h
  rw [ShA] at h3; subst h3
  obtain ⟨_, _, rfl, ⟨a, rfl, wa⟩, _, _, rfl, ⟨b, rfl, wb⟩, h2⟩ := h2
  rw [ShL] at h2; subst h2
  obtain ⟨u, rfl⟩ := unit_all h1
  obtain ⟨s, rfl, hs⟩ : ∃ s : List Int, rows = byR s ∧ ∀ n, n ∈ s → 0 ≤ n ∧ n ≤ 255 := by
    clear hl
    induction rows with
    | nil => exact ⟨[], rfl, fun n hn => by cases hn⟩
    | cons r rs ih =>
      obtain ⟨s, rfl, h2⟩ := ih fun r' h' => hr r' (List.mem_cons_of_mem _ h')
      obtain ⟨_, _, rfl, ⟨n, rfl, wn⟩, h⟩ := hr r (List.mem_cons_self ..)
      rw [ShL] at h; subst h
      exact ⟨n :: s, rfl, fun x hx => by
        rcases List.mem_cons.1 hx with rfl | hx
        · exact byte_wf wn
        · exact h2 x hx⟩
  rw [byR_len] at hl
  exact lawRuns u a b (byte_wf wa) (byte_wf wb) s hs (Nat.le_trans hl (by decide))

set_option maxRecDepth 100000 in
theorem lifted_MachineRuns (os : Os) (started : os.Started) (H : Type) (enc : TypeId × Value → H) :
    ReturnsInHanded {} Try.checked os 13 .any (Rows.machineRunsSpec.pre6 enc Try.prog Try.f13 Rows.machineRunsRow.domain false) (Rows.machineRunsSpec.post enc Try.prog Try.f13 false true false false) := by
  refine returnsInHanded_of_change (C := Try.checked) ownK started (by kernel_rfl) Try.func13
    (ChangeSpec.witness6 (enc := enc) (C := Try.checked) false ⟨#[], #[.agg #[.int .i64 0, .slice none 0 0, .slice none 0 0, .slice none 0 0], .agg #[.int .u8 0, .int .u8 0], .slice none 0 0], []⟩ 12 (by kernel_rfl) (by kernel_rfl) (by kernel_rfl) (by kernel_rfl)) ?_
  intro W base args ds gs before hval0 hW hcnd _
  have hval : ∀ (j : Nat) t v, Try.f13.params[j]? = some t → args[j]? = some v → Value.okWide Try.prog W .any base t v := hval0
  have hW' := hW
  obtain ⟨p, q, hA0, hV, rfl, hfz, hnd⟩ := hW
  have hA : DataW.TrodAll enc Try.prog W 0 (fun _ => true) true Try.f13.params.toList args.toList ds p := hA0
  obtain ⟨rfl, rfl⟩ := trodVars_none hV
  obtain ⟨Ds, hS, hR⟩ := open_args (L := live [] (fun _ => False)) (fun b hb => hb.elim id (fun h => by cases h)) _ _ _ _ [.many unitT, .many [.int .u8, .int .u8], .one (.sl [.int .u8])] hA
    (fun j t v h1 h2 => hval j t v (by simpa using h1) (by simpa using h2)) (by kernel_rfl)
  obtain ⟨d0, d1, d2, rfl⟩ := spine3 (trodAll_len _ _ _ _ hA)
  simp only [List.append_nil] at hW'
  have hlt : ∀ x ∈ p, x.block < W.heap.size := fun x hx => by simpa using hW'.lt x hx
  refine (calls_yes (lawMachineRuns_all Ds hS) W args.toList hR).mono fun e W' ⟨he, hw⟩ => ?_
  subst he
  exact ⟨_, rfl, _, _, _, [], p, [], hW', trodAll_mk1 (shut_bool Try.underlying4 _), shut_args (by kernel_rfl) hw _ _ _ _ (by kernel_rfl) hA hlt, rfl, hw.frame _, fun h => by cases h⟩

theorem MachineRuns_holds : Rows.MachineRunsSaid :=
  OpenClaim.holds_of_wide 13 Try.f13 rfl rfl rfl rfl rfl rfl rfl ⟨rfl, rfl, rfl, rfl, rfl⟩ rfl rfl rfl rfl rfl (by kernel_rfl) Try.func13 (by kernel_rfl)
    (of_decide_eq_true (by kernel_rfl)) (by unfold Func.isWrapper; first | (rw [if_pos (by decide +kernel)]; kernel_rfl) | (rw [if_neg (by decide +kernel)]; exact ⟨rfl, rfl⟩))
    (fun os started H enc _ => lifted_MachineRuns os started H enc)
end Go.Proofs.Ytlnmljmeahknaaa
