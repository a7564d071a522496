/- The walk of MachineDead. No condition. -/
import Derived.Test.YtlnmljmeahknaaaRj
import Derived.Test.YtlnmljmeahknaaaZq
import Derived.Test.YtlnmljmeahknaaaRr
namespace Go.Proofs.Ytlnmljmeahknaaa
set_option linter.unusedSimpArgs false
set_option linter.unusedVariables false
set_option maxRecDepth 20000
open Go Go.Proofs Go.Vc

section
variable {u : Un} {c : Cf} {m r : Int}
theorem moves_none : (movesF u c m r).length = 0 ↔ ∀ a, a ∈ agsF u m → canA u c m r a = false := by
  unfold movesF mvK
  rw [List.length_map, List.length_eq_zero_iff, List.filter_eq_nil_iff]
  constructor
  · intro h a ha
    obtain ⟨i, hi⟩ := List.getElem?_of_mem ha
    have := h i (List.mem_range.2 (List.getElem?_eq_some_iff.1 hi).1)
    simpa [hi] using this
  · intro h i hi
    have hi := List.mem_range.1 hi
    have hx : (agsF u m)[i]? = some (agsF u m)[i] := List.getElem?_eq_getElem hi
    rw [hx]
    simpa using h _ (List.getElem_mem hi)
theorem ag_th (h : Rt u c m r) {t : Nat} (ht : t < u.regs.length) : Ag.th t ∈ agsF u m := by
  have hg := h.gate
  rw [agsF, if_pos ⟨h.unit, by omega, by omega⟩, allF]
  exact List.mem_append_left _ (List.mem_map.2 ⟨t, List.mem_range.2 ht, rfl⟩)
theorem ag_fl2 (h : Rt u c 2 r) {t : Nat} (ht : t < u.regs.length) : Ag.fl t (-1) ∈ agsF u 2 := by
  rw [agsF_2 h.unit]
  exact List.mem_append_right _ (List.mem_map.2 ⟨t, List.mem_range.2 ht, rfl⟩)
theorem ag_fl3 (h : Rt u c 3 r) {t l : Nat} (ht : t < u.regs.length) (hl : l < u.init.length) : Ag.fl t (l : Int) ∈ agsF u 3 := by
  rw [agsF_3 h.unit]
  exact List.mem_append_right _ (List.mem_flatMap.2 ⟨t, List.mem_range.2 ht, List.mem_map.2 ⟨l, List.mem_range.2 hl, rfl⟩⟩)
theorem ended_at {i : Nat} {x : Ins} {row : List Int} {b : List En} {p : Nat} (ha : At10 u c i x row b p) : endedB u c (i : Nat) = (x.op == 22) := by
  obtain ⟨rw0, n, k1, k2, k3, k4, k5⟩ := ha.kind
  simp [endedB, k1, ha.pc, k3]
theorem fst_some {l : Int} : ∀ {b : List En}, (∃ e, e ∈ b ∧ e.1 = l) → fstI l b ≠ none
  | [], ⟨e, h, _⟩ => by cases h
  | x :: b, ⟨e, h, he⟩ => by
    unfold fstI
    by_cases hx : x.1 = l
    · rw [decide_eq_true hx]; simp
    · rw [decide_eq_false hx]
      rcases List.mem_cons.1 h with rfl | h
      · exact absurd he hx
      · have := fst_some ⟨e, h, he⟩
        cases hf : fstI l b with
        | none => exact absurd hf this
        | some k => simp
/-- Where nothing can act, nothing waits. -/
theorem quiet_of (h : Rt u c m r) (hn : (movesF u c m r).length = 0) : quietB c = true := by
  have hN := moves_none.1 hn
  have hg := h.gate
  have hl := h.lens
  unfold quietB
  rw [List.all_eq_true]
  intro b hb
  obtain ⟨i, hi⟩ := List.getElem?_of_mem hb
  have hil := (List.getElem?_eq_some_iff.1 hi).1
  have hir : i < u.regs.length := by omega
  rcases (show m = 1 ∨ m = 2 ∨ m = 3 by omega) with rfl | rfl | rfl
  · rw [h.sc hb]; rfl
  · cases b with
    | nil => rfl
    | cons e b =>
      have := hN _ (ag_fl2 h (t := i) hir)
      simp [canA, flushB, hi, popF, nextF] at this
  · cases b with
    | nil => rfl
    | cons e b =>
      have he := (h.rb hi).el e (List.mem_cons_self ..)
      have := hN _ (ag_fl3 h (t := i) (l := e.1.toNat) hir (by have := he.1; have := he.2.1; omega))
      rw [show ((e.1.toNat : Nat) : Int) = e.1 by omega] at this
      have hf := fst_some (l := e.1) (b := e :: b) ⟨e, List.mem_cons_self .., rfl⟩
      cases hk : fstI e.1 (e :: b) with
      | none => exact absurd hk hf
      | some k =>
        simp only [canA, flushB, Int.toNat_natCast, hi, popF, nextF, if_true, hk, decide_eq_true (Int.natCast_nonneg i)] at this
        cases this
theorem quiet_buf {i : Nat} {b : List En} (h : quietB c = true) (hb : c.bufs[i]? = some b) : b = [] := by
  unfold quietB at h
  have := List.all_eq_true.1 h b (List.mem_of_getElem? hb)
  simpa using this
/-- Where nothing can act, each thread is at its end, or waits. -/
theorem stuck_of (h : Rt u c m r) (hn : (movesF u c m r).length = 0) {i : Nat} {x : Ins} {row : List Int} {b : List En} {p : Nat} (ha : At10 u c i x row b p) : x.op = 22 ∨ x.op = 9 := by
  have hN := moves_none.1 hn
  have hg := h.gate
  have hl := h.lens
  have hil := (List.getElem?_eq_some_iff.1 ha.pc).1
  have hb := quiet_buf (quiet_of h hn) ha.thr.buf
  have he := hN _ (ag_th h (t := i) (by omega))
  simp only [canA] at he
  rw [enT_at ha.thr] at he
  by_cases h22 : x.op = 22
  · exact .inl h22
  by_cases h9 : x.op = 9
  · exact .inr h9
  exfalso
  subst hb
  simp only [enB, h22, h9, if_false] at he
  split at he
  · have hr : m = 1 ∨ roomF m r x.loc [] = true := by
      rcases (show m = 1 ∨ m = 2 ∨ m = 3 by omega) with h' | h' | h'
      · exact .inl h'
      · right; rw [roomF, if_pos h']; exact decide_eq_true (by simp; omega)
      · right; rw [roomF, if_neg (by omega), if_pos h']; exact decide_eq_true (by show ((0 : Nat) : Int) < r; omega)
    rcases hr with hr | hr <;> simp [hr] at he
  · split at he
    · simp at he
    · cases he
theorem final_none (h : Rt u c m r) (hF : finalB u c = true) : (movesF u c m r).length = 0 := by
  rw [moves_none]
  intro a ha
  have hl := h.lens
  have hu := h.uhead
  simp only [finalB, Bool.and_eq_true, List.all_eq_true] at hF
  obtain ⟨h1, h2⟩ := hF
  cases a with
  | th t =>
    show enT u c m r (t : Nat) = false
    by_cases ht : t ≥ c.pc.length
    · exact enT_no (.inr (by omega))
    obtain ⟨x, row, b, p, hat⟩ := h.at (i := t) (by omega)
    have := h1 t (List.mem_range.2 (by omega))
    rw [ended_at hat] at this
    rw [enT_at hat.thr]
    simp [enB, show x.op = 22 by simpa using this]
  | fl t l =>
    show flushB c m (t : Nat) l = false
    unfold flushB
    split
    · rename_i b _ hb
      rw [quiet_buf h2 hb]
      have hg := h.gate
      rcases (show m = 1 ∨ m = 2 ∨ m = 3 by omega) with rfl | rfl | rfl <;> simp [popF, nextF, fstI]
    · rfl
/-- Of the first threads one waits. -/
def waitK (u : Un) (c : Cf) (k : Nat) : Bool := (List.range k).any fun t => (insX u c t).any fun x => x.op == 9
theorem waitK_succ {k : Nat} {x : Ins} (h : insX u c k = some x) : waitK u c (k + 1) = (waitK u c k || (x.op == 9)) := by
  simp [waitK, List.range_succ, List.any_append, h]
theorem wait_of (h : Rt u c m r) (hn : (movesF u c m r).length = 0) (hF : finalB u c = false) : waitK u c c.pc.length = true := by
  have hl := h.lens
  have hu := h.uhead
  rw [finalB, quiet_of h hn, Bool.and_true, List.all_eq_false] at hF
  obtain ⟨t, ht, hE⟩ := hF
  have ht := List.mem_range.1 ht
  obtain ⟨x, row, b, p, ha⟩ := h.at (i := t) (by omega)
  rw [ended_at ha] at hE
  unfold waitK
  rw [List.any_eq_true]
  refine ⟨t, List.mem_range.2 (by omega), ?_⟩
  rw [ha.thr.at_.ins]
  rcases stuck_of h hn ha with h' | h'
  · simp [h'] at hE
  · simp [h']
end

set_option maxHeartbeats 8000000 in
theorem lawDead (u : Un) (c : Cf) (m r a : Int) : Pure Try.prog 12 [.agg (cbC u c m r a)] (bD true) := by
  have c0 := right11_ok u c m r a
  have ck := known11_ok
  refine Fun.of T [.tmp 2] Try.func12 rfl Try.ntmps12 Try.results12 rfl (by kernel_rfl) ?_
  cases hR : rightK u c m r with
  | false =>
    rw [hR] at c0
    repeat' first | refine VCo.stepO rfl rfl (fun K hK => r_boxR rfl rfl rfl (hK _ _ ?_)); (try simp only [updO]) | (refine VCo.step T rfl rfl (fun K hK => ?_)); (try simp (disch := omega) only [WB, argE, Nat.reduceBEq, Nat.reduceAdd, Nat.reduceLeDiff, T71, Bool.not_false]); (first | refine hK _ _ ?_; clear hK K | refine Op1.callp rfl rfl (c0) rfl ?_; refine hK _ _ ?_; clear hK K | refine Op1.callp rfl rfl (ck) rfl ?_; refine hK _ _ ?_; clear hK K) | refine VC.region ?_ | refine VC.seq' ?_ | (first | refine VCo.nil ?_ | refine VC.ret ?_); (try simp only [QB]) | refine ret1 T (List.nil_sublist _) ?_; (try simp only [upd, Nat.reduceBEq, cond_true, cond_false, and_true]) | refine VC.cond rfl ?_; (try simp only [gsplit_true])
  | true =>
  rw [hR] at c0
  have h := rtK hR
  have hl := h.lens
  have hu := h.uhead
  have kp := h.okC.pc
  have c1 := moves_ok h
  have c2 := rfinal_ok u c (by have := h.okU.cod; omega) (by have := h.okC.bufs; omega)
  have c3 := dead_ok h
  have hdead : deadB u c m r = ((!finalB u c) && decide ((movesF u c m r).length = 0)) := rfl
  rw [hdead] at c3
  have hfin := final_none h
  have hq := quiet_of h
  have hwt := wait_of h
  cases hF : finalB u c with
  | true =>
    have hn := hfin hF
    rw [hF] at c2 c3
    have d0 : decide (((movesF u c m r).length : Int) > 0) = false := decide_eq_false (by omega)
    have b0 : (((movesF u c m r).length : Int) == 0) = true := beq_iff_eq.2 (by omega)
    rw [show ((!true) && decide ((movesF u c m r).length = 0)) = false from rfl] at c3
    generalize movesF u c m r = L at *
    repeat' first | refine VCo.stepO rfl rfl (fun K hK => r_boxR rfl rfl rfl (hK _ _ ?_)); (try simp only [updO]) | (first | refine VCo.step T rfl rfl (fun K hK => ?_) | refine VCr.step T rfl (fun K hK => ?_)); (try simp (disch := omega) only [WB, argE, Nat.reduceBEq, Nat.reduceAdd, Nat.reduceLeDiff, T3, T4, T31, T42, T46, T71, d0, b0, iRs_len, bne_self_eq_false, Bool.not_true]); (first | refine hK _ _ ?_; clear hK K | refine Op1.callp rfl rfl (c0) rfl ?_; refine hK _ _ ?_; clear hK K | refine Op1.callp rfl rfl (c1) rfl ?_; refine hK _ _ ?_; clear hK K | refine Op1.callp rfl rfl (c2) rfl ?_; refine hK _ _ ?_; clear hK K | refine Op1.callp rfl rfl (c3) rfl ?_; refine hK _ _ ?_; clear hK K | refine Op1.callp rfl rfl (ck) rfl ?_; refine hK _ _ ?_; clear hK K) | refine VCo.gstep rfl rfl rfl rfl rfl ?_; try simp only [GB] | refine VC.region ?_ | refine VC.seq' ?_ | (first | refine VCo.nil ?_ | refine VC.skip ?_ | refine VC.ret ?_); (try simp only [QB]) | refine ret1 T (List.nil_sublist _) ?_; (try simp only [upd, Nat.reduceBEq, cond_true, cond_false, and_true]) | refine VC.cond rfl ?_; (try simp only [gsplit_true, gsplit_false])
  | false =>
  rw [hF] at c2 c3
  by_cases hn : (movesF u c m r).length = 0
  case neg =>
    have d0 : decide (((movesF u c m r).length : Int) > 0) = true := decide_eq_true (by omega)
    have b0 : (((movesF u c m r).length : Int) == 0) = false := beq_eq_false_iff_ne.2 (by omega)
    rw [decide_eq_false hn, show ((!false) && false) = false from rfl] at c3
    clear hdead hfin hq hwt
    generalize movesF u c m r = L at *
    repeat' first | refine VCo.stepO rfl rfl (fun K hK => r_boxR rfl rfl rfl (hK _ _ ?_)); (try simp only [updO]) | (first | refine VCo.step T rfl rfl (fun K hK => ?_) | refine VCr.step T rfl (fun K hK => ?_)); (try simp (disch := omega) only [WB, argE, Nat.reduceBEq, Nat.reduceAdd, Nat.reduceLeDiff, T3, T4, T31, T42, T46, T71, d0, b0, iRs_len, bne_self_eq_false, Bool.not_true]); (first | refine hK _ _ ?_; clear hK K | refine Op1.callp rfl rfl (c0) rfl ?_; refine hK _ _ ?_; clear hK K | refine Op1.callp rfl rfl (c1) rfl ?_; refine hK _ _ ?_; clear hK K | refine Op1.callp rfl rfl (c2) rfl ?_; refine hK _ _ ?_; clear hK K | refine Op1.callp rfl rfl (c3) rfl ?_; refine hK _ _ ?_; clear hK K | refine Op1.callp rfl rfl (ck) rfl ?_; refine hK _ _ ?_; clear hK K) | refine VCo.gstep rfl rfl rfl rfl rfl ?_; try simp only [GB] | refine VC.region ?_ | refine VC.seq' ?_ | (first | refine VCo.nil ?_ | refine VC.skip ?_ | refine VC.ret ?_); (try simp only [QB]) | refine ret1 T (List.nil_sublist _) ?_; (try simp only [upd, Nat.reduceBEq, cond_true, cond_false, and_true]) | refine VC.cond rfl ?_; (try simp only [gsplit_true, gsplit_false])
  have hq1 := hq hn
  have hwt1 := hwt hn hF
  have hst : ∀ i x row b p, At10 u c i x row b p → x.op = 22 ∨ x.op = 9 := fun i x row b p ha => stuck_of h hn ha
  have d0 : decide (((movesF u c m r).length : Int) > 0) = false := decide_eq_false (by omega)
  have b0 : (((movesF u c m r).length : Int) == 0) = true := beq_iff_eq.2 (by omega)
  rw [decide_eq_true hn, show ((!false) && true) = true from rfl] at c3
  have c4 := rquiet_ok c (by have := h.okC.bufs; omega)
  rw [hq1] at c4
  clear hdead hfin hq hwt
  generalize movesF u c m r = L at *
  repeat' first | refine VCo.stepO rfl rfl (fun K hK => r_boxR rfl rfl rfl (hK _ _ ?_)); (try simp only [updO]) | (first | refine VCo.step T rfl rfl (fun K hK => ?_) | refine VCr.step T rfl (fun K hK => ?_)); (try simp (disch := omega) only [WB, argE, Nat.reduceBEq, Nat.reduceAdd, Nat.reduceLeDiff, T3, T4, T31, T42, T46, T71, d0, b0, iRs_len, bne_self_eq_false, Bool.not_true, Bool.not_false]); (first | refine hK _ _ ?_; clear hK K | refine Op1.callp rfl rfl (c0) rfl ?_; refine hK _ _ ?_; clear hK K | refine Op1.callp rfl rfl (c1) rfl ?_; refine hK _ _ ?_; clear hK K | refine Op1.callp rfl rfl (c2) rfl ?_; refine hK _ _ ?_; clear hK K | refine Op1.callp rfl rfl (c3) rfl ?_; refine hK _ _ ?_; clear hK K) | refine VCo.gstep rfl rfl rfl rfl rfl ?_; try simp only [GB] | refine VC.region ?_ | refine VC.seq' ?_ | refine VC.block ?_ | (first | refine VCo.nil ?_ | refine VC.skip ?_); (try simp only [QB]) | refine VC.cond rfl ?_; (try simp only [gsplit_false])
  refine VC.loop {k : Nat // k ≤ c.pc.length} (fun p => ⟨lookD [(1, .pt (cbC u c m r a)), (5, bD (waitK u c p.1)), (6, iD (p.1 : Nat))], []⟩) (fun p => c.pc.length - p.1) ⟨0, by omega⟩ ?_ ?_
  · refine Weak.sub ?_
    simp [sub, upd]
    try rfl
  rintro ⟨k, hk⟩
  dsimp only
  rcases Nat.lt_or_ge k c.pc.length with hlt | hge
  case inr =>
    obtain rfl : k = c.pc.length := by omega
    have hd : decide ((c.pc.length : Int) < (c.pc.length : Int)) = false := by simp
    rw [hwt1]
    repeat' first | (first | refine VCo.step T rfl rfl (fun K hK => ?_) | refine VCr.step T rfl (fun K hK => ?_)); (try simp (disch := omega) only [WB, lookD, Nat.reduceBEq, Nat.reduceAdd, Nat.reduceLeDiff, T3, T31, T46, T71, hd, iRs_len]); (first | refine hK _ _ ?_; clear hK K | refine Op1.callp rfl rfl (c4) rfl ?_; refine hK _ _ ?_; clear hK K | refine Op1.callp rfl rfl (ck) rfl ?_; refine hK _ _ ?_; clear hK K) | refine VCo.gstep rfl rfl rfl rfl rfl ?_; try simp only [GB] | refine VC.region ?_ | refine VC.seq' ?_ | (first | refine VCo.nil ?_ | refine VC.ret ?_ | refine VC.exit ?_); (try simp only [QB]) | refine ret1 T (List.nil_sublist _) ?_; (try simp only [upd, Nat.reduceBEq, cond_true, cond_false, and_true]) | refine VC.cond rfl ?_; (try simp only [gsplit_false])
  have hd : decide ((k : Int) < (c.pc.length : Int)) = true := by simp; omega
  have hw : IntKind.i64.wrap ((k : Int) + 1) = ((k + 1 : Nat) : Int) := by rw [w64 (by omega)]; omega
  obtain ⟨x, row, b, p, ha⟩ := h.at (i := k) (by omega)
  obtain ⟨rw0, n, k1, k2, k3, k4, k5⟩ := ha.kind
  have l1 := (List.getElem?_eq_some_iff.1 ha.pc).1
  have l2 := (List.getElem?_eq_some_iff.1 k1).1
  have l4 := (List.getElem?_eq_some_iff.1 k3).1
  have r1 : (iRs c.pc)[k]? = some [iD (p : Nat)] := by rw [iRs_at, ha.pc]; rfl
  have r2 : (codeRs u.code)[k]? = some [.sl false 7 (insRs rw0)] := by rw [codeRs_at, k1]; rfl
  have r4 : (insRs rw0)[p]? = some [iD x.op, iD x.reg, iD x.loc, opsD x.e, opsD x.f, bD x.ne, iD x.to] := by rw [insRs_at, k3]; rfl
  have hs := waitK_succ ha.thr.at_.ins
  rcases hst _ _ _ _ _ ha with ho | ho
  · have e1 : (x.op != 22) = false := by simp [ho]
    have e2 : (x.op == 9) = false := by simp [ho]
    rw [e2, Bool.or_false] at hs
    cases hW : waitK u c k with
    | true =>
      repeat' first | refine VC.draw (id := 13) T 12 (by kernel_rfl) (by kernel_rfl) (by kernel_rfl) ?_ | refine VCg.nil T ?_; simp only [allK, WB] | (first | apply VCg.step T rfl rfl | apply exF); focus ((try simp (disch := omega) only [WB, lookD, Nat.reduceBEq, T3, T31, T40, T42, T46, T63, T71, r1, r2, iRs_len, codeRs_len]); (first | exact rfl | refine ⟨?_, rfl⟩; try omega)) | (refine VCo.step T rfl rfl (fun K hK => ?_)); (try simp (disch := omega) only [WB, lookD, Nat.reduceBEq, T3, T31, T46, T62, T63, T71, hd, hw, r4, e1, iRs_len, insRs_len]); (first | refine hK _ _ ?_; clear hK K | refine ⟨?_, hK _ _ ?_⟩ <;> clear hK K; focus (try omega)) | refine VCo.gstep rfl rfl rfl rfl rfl ?_; try simp only [GB] | refine VC.region ?_ | refine VC.seq' ?_ | refine VC.block ?_ | (first | refine VCo.nil ?_ | refine VC.skip ?_); (try simp only [QB]) | refine VC.cond rfl ?_; (try simp only [gsplit_true, gsplit_false])
      refine ⟨⟨k + 1, by omega⟩, Weak.sub ?_, by dsimp only; omega⟩
      simp [sub, upd, hs, hW]
    | false =>
      repeat' first | refine VC.draw (id := 13) T 12 (by kernel_rfl) (by kernel_rfl) (by kernel_rfl) ?_ | refine VCg.nil T ?_; simp only [allK, WB] | (first | apply VCg.step T rfl rfl | apply exF); focus ((try simp (disch := omega) only [WB, lookD, Nat.reduceBEq, T3, T31, T40, T42, T46, T63, T71, r1, r2, iRs_len, codeRs_len]); (first | exact rfl | refine ⟨?_, rfl⟩; try omega)) | (first | refine VCo.step T rfl rfl (fun K hK => ?_) | refine VCr.step T rfl (fun K hK => ?_)); (try simp (disch := omega) only [WB, lookD, Nat.reduceBEq, T3, T31, T46, T62, T63, T71, hd, hw, r4, e1, e2, iRs_len, insRs_len]); (first | refine hK _ _ ?_; clear hK K | refine ⟨?_, hK _ _ ?_⟩ <;> clear hK K; focus (try omega)) | refine VCo.gstep rfl rfl rfl rfl rfl ?_; try simp only [GB] | refine VC.region ?_ | refine VC.seq' ?_ | refine VC.block ?_ | (first | refine VCo.nil ?_ | refine VC.skip ?_); (try simp only [QB]) | refine VC.cond rfl ?_; (try simp only [gsplit_true, gsplit_false])
      refine ⟨⟨k + 1, by omega⟩, Weak.sub ?_, by dsimp only; omega⟩
      simp [sub, upd, hs, hW]
  · have e1 : (x.op != 22) = true := by simp [ho]
    have e3 : (x.op != 9) = false := by simp [ho]
    have e2 : (x.op == 9) = true := by simp [ho]
    rw [e2, Bool.or_true] at hs
    cases hW : waitK u c k with
    | true =>
      repeat' first | refine VC.draw (id := 13) T 12 (by kernel_rfl) (by kernel_rfl) (by kernel_rfl) ?_ | refine VCg.nil T ?_; simp only [allK, WB] | (first | apply VCg.step T rfl rfl | apply exF); focus ((try simp (disch := omega) only [WB, lookD, Nat.reduceBEq, T3, T31, T40, T42, T46, T63, T71, r1, r2, iRs_len, codeRs_len]); (first | exact rfl | refine ⟨?_, rfl⟩; try omega)) | (first | refine VCo.step T rfl rfl (fun K hK => ?_) | refine VCr.step T rfl (fun K hK => ?_)); (try simp (disch := omega) only [WB, lookD, Nat.reduceBEq, T3, T31, T46, T62, T63, T71, hd, hw, r4, e1, e3, iRs_len, insRs_len]); (first | refine hK _ _ ?_; clear hK K | refine ⟨?_, hK _ _ ?_⟩ <;> clear hK K; focus (try omega)) | refine VCo.gstep rfl rfl rfl rfl rfl ?_; try simp only [GB] | refine VC.region ?_ | refine VC.seq' ?_ | refine VC.block ?_ | (first | refine VCo.nil ?_ | refine VC.skip ?_); (try simp only [QB]) | refine VC.cond rfl ?_; (try simp only [gsplit_true, gsplit_false])
      refine ⟨⟨k + 1, by omega⟩, Weak.sub ?_, by dsimp only; omega⟩
      simp [sub, upd, hs]
    | false =>
      repeat' first | refine VC.draw (id := 13) T 12 (by kernel_rfl) (by kernel_rfl) (by kernel_rfl) ?_ | refine VCg.nil T ?_; simp only [allK, WB] | (first | apply VCg.step T rfl rfl | apply exF); focus ((try simp (disch := omega) only [WB, lookD, Nat.reduceBEq, T3, T31, T40, T42, T46, T63, T71, r1, r2, iRs_len, codeRs_len]); (first | exact rfl | refine ⟨?_, rfl⟩; try omega)) | (first | refine VCo.step T rfl rfl (fun K hK => ?_) | refine VCr.step T rfl (fun K hK => ?_)); (try simp (disch := omega) only [WB, lookD, Nat.reduceBEq, T3, T31, T46, T62, T63, T71, hd, hw, r4, e1, e2, e3, iRs_len, insRs_len]); (first | refine hK _ _ ?_; clear hK K | refine ⟨?_, hK _ _ ?_⟩ <;> clear hK K; focus (try omega)) | refine VCo.gstep rfl rfl rfl rfl rfl ?_; try simp only [GB] | refine VC.region ?_ | refine VC.seq' ?_ | refine VC.block ?_ | (first | refine VCo.nil ?_ | refine VC.skip ?_); (try simp only [QB]) | refine VC.cond rfl ?_; (try simp only [gsplit_true, gsplit_false])
      refine ⟨⟨k + 1, by omega⟩, Weak.sub ?_, by dsimp only; omega⟩
      simp [sub, upd, hs]
end Go.Proofs.Ytlnmljmeahknaaa
/- The statement of MachineDead. No condition. -/
namespace Go.Proofs.Ytlnmljmeahknaaa
set_option linter.unusedSimpArgs false
set_option linter.unusedVariables false
open Go Go.Proofs Go.Vc Go.ChangeShapes Go.WideShapes Go.ChangeAt Go.RowKit Go.Joins

theorem lawMachineDead_all (Ds : List D) (h : ShA [.many case11T] Ds) : Pure Try.prog 12 Ds (bD true) := by
  obtain ⟨u, c, m, r, a, rfl⟩ := case11_all Ds h
  exact lawDead u c m r a

set_option maxRecDepth 100000 in
theorem lifted_MachineDead (os : Os) (started : os.Started) (H : Type) (enc : TypeId × Value → H) :
    ReturnsInHanded {} Try.checked os 12 .any (Rows.machineDeadSpec.pre6 enc Try.prog Try.f12 Rows.machineDeadRow.domain false) (Rows.machineDeadSpec.post enc Try.prog Try.f12 false true false false) := by
  refine returnsInHanded_of_change (C := Try.checked) ownK started (by kernel_rfl) Try.func12
    (ChangeSpec.witness6 (enc := enc) (C := Try.checked) false ⟨#[], #[.agg #[.int .i64 0, .slice none 0 0, .slice none 0 0, .slice none 0 0, .slice none 0 0, .slice none 0 0, .slice none 0 0, .slice none 0 0, .int .i64 0, .int .i64 0, .int .i64 0]], []⟩ 12 (by kernel_rfl) (by kernel_rfl) (by kernel_rfl) (by kernel_rfl)) ?_
  intro W base args ds gs before hval0 hW hcnd _
  have hval : ∀ (j : Nat) t v, Try.f12.params[j]? = some t → args[j]? = some v → Value.okWide Try.prog W .any base t v := hval0
  have hW' := hW
  obtain ⟨p, q, hA0, hV, rfl, hfz, hnd⟩ := hW
  have hA : DataW.TrodAll enc Try.prog W 0 (fun _ => true) true Try.f12.params.toList args.toList ds p := hA0
  obtain ⟨rfl, rfl⟩ := trodVars_none hV
  obtain ⟨Ds, hS, hR⟩ := open_args (L := live [] (fun _ => False)) (fun b hb => hb.elim id (fun h => by cases h)) _ _ _ _ [.many case11T] hA
    (fun j t v h1 h2 => hval j t v (by simpa using h1) (by simpa using h2)) (by kernel_rfl)
  obtain ⟨d0, rfl⟩ := spine1 (trodAll_len _ _ _ _ hA)
  simp only [List.append_nil] at hW'
  have hlt : ∀ x ∈ p, x.block < W.heap.size := fun x hx => by simpa using hW'.lt x hx
  refine (calls_yes (lawMachineDead_all Ds hS) W args.toList hR).mono fun e W' ⟨he, hw⟩ => ?_
  subst he
  exact ⟨_, rfl, _, _, _, [], p, [], hW', trodAll_mk1 (shut_bool Try.underlying4 _), shut_args (by kernel_rfl) hw _ _ _ _ (by kernel_rfl) hA hlt, rfl, hw.frame _, fun h => by cases h⟩

theorem MachineDead_holds : Rows.MachineDeadSaid :=
  OpenClaim.holds_of_wide 12 Try.f12 rfl rfl rfl rfl rfl rfl rfl ⟨rfl, rfl, rfl, rfl, rfl⟩ rfl rfl rfl rfl rfl (by kernel_rfl) Try.func12 (by kernel_rfl)
    (of_decide_eq_true (by kernel_rfl)) (by unfold Func.isWrapper; first | (rw [if_pos (by decide +kernel)]; kernel_rfl) | (rw [if_neg (by decide +kernel)]; exact ⟨rfl, rfl⟩))
    (fun os started H enc _ => lifted_MachineDead os started H enc)
end Go.Proofs.Ytlnmljmeahknaaa
