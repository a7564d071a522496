/- The walks of StoryShows, StoryParses, StoryBack. No condition. -/
import Derived.Test.YtomcmfbpmkklmaaFn
import Derived.Test.YtomcmfbpmkklmaaFk
import Derived.Test.YtomcmfbpmkklmaaZa
namespace Go.Proofs.Ytomcmfbpmkklmaa
set_option maxHeartbeats 16000000
set_option linter.unusedSimpArgs false
set_option linter.unusedVariables false
set_option maxRecDepth 20000
open Go Go.Proofs Go.Vc
attribute [local irreducible] retQ VCg VCw VCx
theorem tx_of (s : ByteArray) : ∃ S : By, s = tx S := ⟨s.data.toList, rfl⟩
theorem lawShows (a b : Cf) : Pure Try.prog 3 [.agg (cfC a), .agg (cfC b)] (bD true) := by
 have ck := known29_ok
 have l1 := rlight_ok a
 have l2 := rlight_ok b
 refine Fun.of T [.tmp 4] Try.func3 rfl Try.ntmps3 Try.results3 rfl (by kernel_rfl) ?_
 cases h1 : lightC a with
 | false =>
  rw [h1] at l1
  repeat' first | refine vb rfl rfl rfl rfl ?_ | refine vs T rfl fun K hK => ?_; (try simp (disch := omega) only [go_sem, Nat.reduceBEq, Nat.reduceAdd, Nat.reduceLeDiff, Bool.not_false]); (first | refine hK _ _ ?_; clear hK K | refine Op1.callp rfl rfl (l1) rfl ?_; refine hK _ _ ?_; clear hK K | refine Op1.callp rfl rfl (ck) rfl ?_; refine hK _ _ ?_; clear hK K) | refine st rfl ?_ | refine sc rfl ?_ | refine nl ?_ | refine gs rfl rfl ?_ | exact ret1 T (List.nil_sublist _) ⟨rfl, rfl⟩
 | true =>
 rw [h1] at l1
 cases h2 : lightC b with
 | false =>
  rw [h2] at l2
  repeat' first | refine vb rfl rfl rfl rfl ?_ | refine vs T rfl fun K hK => ?_; (try simp (disch := omega) only [go_sem, Nat.reduceBEq, Nat.reduceAdd, Nat.reduceLeDiff, Bool.not_true, Bool.not_false]); (first | refine hK _ _ ?_; clear hK K | refine Op1.callp rfl rfl (l1) rfl ?_; refine hK _ _ ?_; clear hK K | refine Op1.callp rfl rfl (l2) rfl ?_; refine hK _ _ ?_; clear hK K | refine Op1.callp rfl rfl (ck) rfl ?_; refine hK _ _ ?_; clear hK K) | refine st rfl ?_ | refine sc rfl ?_ | refine nl ?_ | refine gs rfl rfl ?_ | exact ret1 T (List.nil_sublist _) ⟨rfl, rfl⟩
 | true =>
 rw [h2] at l2
 have ha := okC_light h1
 have hb := okC_light h2
 have c1 := show29_ok a ha
 have c2 := rshow29_ok a ha
 have c3 := changes_ok a b ha hb
 have c4 := rchanges_ok a b ha hb
 have c5 := changes_ok b a hb ha
 rw [chg_symm b a] at c5
 generalize chgF a b = n at *
 generalize tx (showF a) = t at *
 repeat' first | refine vb rfl rfl rfl rfl ?_ | refine dr (id := 3) T 20 (by kernel_rfl) ?_ | refine gn ?_ | (first | apply VCg.step T rfl rfl | apply exF); focus ((try simp (disch := omega) only [go_sem, Nat.reduceBEq, Nat.reduceAdd, Nat.reduceLeDiff, beq_self_eq_true, decide_true]); (first | exact rfl | refine Op1.callp rfl rfl (c1) rfl ?_; exact ⟨rfl, rfl⟩ | refine Op1.callp rfl rfl (c2) rfl ?_; exact ⟨rfl, rfl⟩ | refine Op1.callp rfl rfl (c3) rfl ?_; exact ⟨rfl, rfl⟩ | refine Op1.callp rfl rfl (c4) rfl ?_; exact ⟨rfl, rfl⟩)) | refine VCg.gstep T rfl rfl rfl rfl ?_; try simp only [GB] | refine vs T rfl fun K hK => ?_; (try simp (disch := omega) only [go_sem, Nat.reduceBEq, Nat.reduceAdd, Nat.reduceLeDiff, Bool.not_true, beq_self_eq_true]); (first | refine hK _ _ ?_; clear hK K | refine Op1.callp rfl rfl (l1) rfl ?_; refine hK _ _ ?_; clear hK K | refine Op1.callp rfl rfl (l2) rfl ?_; refine hK _ _ ?_; clear hK K | refine Op1.callp rfl rfl (ck) rfl ?_; refine hK _ _ ?_; clear hK K | refine Op1.callp rfl rfl (c5) rfl ?_; refine hK _ _ ?_; clear hK K) | refine st rfl ?_ | refine sc rfl ?_ | refine nl ?_ | refine gs rfl rfl ?_ | exact ret1 T (List.nil_sublist _) ⟨rfl, rfl⟩
theorem thrsT_le (c : Cf) (k : Nat) : ∀ m, (thrsT c k).length ≤ (thrsT c (k + m)).length
 | 0 => Nat.le_refl _
 | m + 1 => by
  have := thrsT_le c k m
  rw [show k + (m + 1) = (k + m) + 1 by omega, thrsT, List.length_append]
  omega
theorem rowT_ge : ∀ l : List Int, l.length ≤ (rowT l).length
 | [] => Nat.zero_le _
 | n :: l => by have := rowT_ge l; simp only [rowT, List.length_cons, List.length_append]; omega
theorem entT_ge : ∀ l : List En, l.length ≤ (entT l).length
 | [] => Nat.zero_le _
 | n :: l => by have := entT_ge l; simp only [entT, List.length_cons, List.length_append]; omega
theorem okC_par {s : By} (hs : s.length ≤ 1000) : OkC (parC s) := by
 cases hp : parT s with
 | none => rw [show parC s = cf0 by rw [parC, hp]; rfl]; exact okC0
 | some c =>
  rw [show parC s = c by rw [parC, hp]; rfl]
  obtain ⟨hr, rfl⟩ := parT_show hp
  obtain ⟨hc, hl⟩ := rightS_ok hr
  have e1 := hc.r
  have e2 := hc.b
  have hlen : (thrsT c c.pc.length).length + c.mem.length ≤ 1000 := by
   have := rowT_ge c.mem
   simp only [showT, List.length_append, List.length_cons] at hs
   omega
  have key : ∀ k, k < c.pc.length → (c.regs.getD k []).length ≤ 1000 ∧ (c.bufs.getD k []).length ≤ 1000 := fun k hk => by
   have h1 := thrsT_le c (k + 1) (c.pc.length - (k + 1))
   rw [show k + 1 + (c.pc.length - (k + 1)) = c.pc.length by omega, thrsT] at h1
   have h2 := rowT_ge (c.regs.getD k [])
   have h3 := entT_ge (c.bufs.getD k [])
   simp only [thrT, List.length_append, List.length_cons] at h1
   omega
  refine ⟨by omega, by omega, by omega, fun r hr' => ?_, by omega, fun b hb' => ?_⟩
  ·obtain ⟨k, hk, rfl⟩ := List.getElem_of_mem hr'
   have := (key k (by omega)).1
   rwa [List.getD_eq_getElem?_getD, List.getElem?_eq_getElem hk] at this
  ·obtain ⟨k, hk, rfl⟩ := List.getElem_of_mem hb'
   have := (key k (by omega)).2
   rwa [List.getD_eq_getElem?_getD, List.getElem?_eq_getElem hk] at this
theorem lawParses (S : ByteArray) : Pure Try.prog 4 [sD S] (bD true) := by
 have ck := known29_ok
 obtain ⟨s, rfl⟩ := tx_of S
 refine Fun.of T [.tmp 2] Try.func4 rfl Try.ntmps4 Try.results4 rfl (by kernel_rfl) ?_
 rcases Nat.lt_or_ge 1000 s.length with h | h
 ·repeat' first | refine vs T rfl fun K hK => ?_; (try simp (disch := omega) only [go_sem, Nat.reduceBEq, tx_size]); (first | refine hK _ _ ?_; clear hK K | refine Op1.callp rfl rfl (ck) rfl ?_; refine hK _ _ ?_; clear hK K) | refine st rfl ?_ | refine sc rfl ?_ | refine nl ?_ | exact ret1 T (List.nil_sublist _) ⟨rfl, rfl⟩ | with_reducible refine gsplit_intro (fun hc => ?_) (fun hc => ?_) <;> (try simp only [decide_eq_true_eq, decide_eq_false_iff_not, gt_iff_lt, Int.not_lt] at hc) <;> (try (exfalso; omega))
 have c1 := parse29_ok s (by omega)
 have c2 := rparse29_ok s h
 have hO := okC_par h
 have c3 := rsame_ok (parC s) (parC s) hO hO
 rw [sameC_refl] at c3
 generalize parC s = c at *
 generalize parB s = b at *
 repeat' first | refine vs T rfl fun K hK => ?_; (try simp (disch := omega) only [go_sem, Nat.reduceBEq, Nat.reduceAdd, Nat.reduceLeDiff, tx_size, beq_self_eq_true]); (first | refine hK _ _ ?_; clear hK K | intro bq hbq; (try simp only [HB] at hbq); refine hK _ _ ?_; clear hK K | refine Op1.callp rfl rfl (ck) rfl ?_; refine hK _ _ ?_; clear hK K | refine Op1.callp rfl rfl (c1) rfl ?_; refine hK _ _ ?_; clear hK K | refine Op1.callp rfl rfl (c2) rfl ?_; refine hK _ _ ?_; clear hK K | refine Op1.callp rfl rfl (c3) rfl ?_; refine hK _ _ ?_; clear hK K) | refine st rfl ?_ | refine sc rfl ?_ | refine nl ?_ | refine gs rfl rfl ?_ | exact ret1 T (List.nil_sublist _) ⟨rfl, rfl⟩ | with_reducible refine gsplit_intro (fun hc => ?_) (fun hc => ?_) <;> (try simp only [decide_eq_true_eq, decide_eq_false_iff_not, gt_iff_lt, Int.not_lt] at hc) <;> (try (exfalso; omega))
theorem par_nil : parC [] = cf0 ∧ parB [] = false := by
 have e : parT [] = none := by kernel_rfl
 exact ⟨by rw [parC, e]; rfl, by rw [parB, e]; rfl⟩
theorem chg_same {a b : Cf} (h1 : a.regs.length = b.regs.length) (h2 : a.bufs.length = b.bufs.length) : chgF a b = 0 ↔ sameC a b = true := by
 rw [chg_zero a b h1 h2]
 simp only [sameC, Bool.and_eq_true, decide_eq_true_eq]
 exact ⟨fun ⟨a, b, c, d⟩ => ⟨a, c, b, d⟩, fun ⟨a, b, c, d⟩ => ⟨a, c, b, d⟩⟩
theorem lawBack (a b : Cf) (S : ByteArray) : Pure Try.prog 5 [.agg (cfC a), .agg (cfC b), sD S] (bD true) := by
 have ck := known29_ok
 obtain ⟨s, rfl⟩ := tx_of S
 have l1 := rlight_ok a
 have l2 := rlight_ok b
 refine Fun.of T [.tmp 6] Try.func5 rfl Try.ntmps5 Try.results5 rfl (by kernel_rfl) ?_
 cases h1 : lightC a with
 | false =>
  rw [h1] at l1
  repeat' first | refine vb rfl rfl rfl rfl ?_ | refine vs T rfl fun K hK => ?_; (try simp (disch := omega) only [go_sem, Nat.reduceBEq, Nat.reduceAdd, Nat.reduceLeDiff, Bool.not_false]); (first | refine hK _ _ ?_; clear hK K | refine Op1.callp rfl rfl (l1) rfl ?_; refine hK _ _ ?_; clear hK K | refine Op1.callp rfl rfl (ck) rfl ?_; refine hK _ _ ?_; clear hK K) | refine st rfl ?_ | refine sc rfl ?_ | refine nl ?_ | refine gs rfl rfl ?_ | exact ret1 T (List.nil_sublist _) ⟨rfl, rfl⟩
 | true =>
 rw [h1] at l1
 cases h2 : lightC b with
 | false =>
  rw [h2] at l2
  repeat' first | refine vb rfl rfl rfl rfl ?_ | refine vs T rfl fun K hK => ?_; (try simp (disch := omega) only [go_sem, Nat.reduceBEq, Nat.reduceAdd, Nat.reduceLeDiff, Bool.not_true, Bool.not_false]); (first | refine hK _ _ ?_; clear hK K | refine Op1.callp rfl rfl (l1) rfl ?_; refine hK _ _ ?_; clear hK K | refine Op1.callp rfl rfl (l2) rfl ?_; refine hK _ _ ?_; clear hK K | refine Op1.callp rfl rfl (ck) rfl ?_; refine hK _ _ ?_; clear hK K) | refine st rfl ?_ | refine sc rfl ?_ | refine nl ?_ | refine gs rfl rfl ?_ | exact ret1 T (List.nil_sublist _) ⟨rfl, rfl⟩
 | true =>
 rw [h2] at l2
 have ha := okC_light h1
 have hb := okC_light h2
 rcases Nat.lt_or_ge 1000 s.length with h | h
 ·repeat' first | refine vb rfl rfl rfl rfl ?_ | refine vs T rfl fun K hK => ?_; (try simp (disch := omega) only [go_sem, Nat.reduceBEq, Nat.reduceAdd, Nat.reduceLeDiff, tx_size, Bool.not_true]); (first | refine hK _ _ ?_; clear hK K | refine Op1.callp rfl rfl (l1) rfl ?_; refine hK _ _ ?_; clear hK K | refine Op1.callp rfl rfl (l2) rfl ?_; refine hK _ _ ?_; clear hK K | refine Op1.callp rfl rfl (ck) rfl ?_; refine hK _ _ ?_; clear hK K) | refine st rfl ?_ | refine sc rfl ?_ | refine nl ?_ | refine gs rfl rfl ?_ | exact ret1 T (List.nil_sublist _) ⟨rfl, rfl⟩ | with_reducible refine gsplit_intro (fun hc => ?_) (fun hc => ?_) <;> (try simp only [decide_eq_true_eq, decide_eq_false_iff_not, gt_iff_lt, Int.not_lt] at hc) <;> (try (exfalso; omega))
 have z1 := showF_size a ha
 rw [tx_size] at z1
 have c1 := show29_ok a ha
 have c2 := parse29_ok (showF a) (by omega)
 have c3 := rsame_ok a a ha ha
 rw [sameC_refl] at c3
 have cS := parse29_ok s (by omega)
 have c6 := changes_ok a b ha hb
 have c7 := rsame_ok a b ha hb
 have hcs := chg_same (a := a) (b := b)
 obtain ⟨t, e, f, ht, he, hf, hc⟩ : ∃ t e f, showF a = t ∧ parC t = e ∧ parB t = f ∧ (t = [] ∧ e = cf0 ∧ f = false ∨ t ≠ [] ∧ e = a ∧ f = true) := by
  cases hr : rightS a with
  | false =>
   have e0 : showF a = [] := by rw [showF, hr]; rfl
   exact ⟨_, _, _, rfl, rfl, rfl, .inl ⟨e0, by rw [e0]; exact par_nil.1, by rw [e0]; exact par_nil.2⟩⟩
  | true =>
   have e0 : showF a = showT a := by rw [showF, hr]; rfl
   have e1 := parT_of hr
   exact ⟨_, _, _, rfl, rfl, rfl, .inr ⟨by rw [e0]; exact showT_ne a, by rw [e0, parC, e1]; rfl, by rw [e0, parB, e1]; rfl⟩⟩
 rw [ht] at c1 c2
 rw [he, hf] at c2
 have hS : (parC s = cf0 ∧ parB s = false) ∨ ∃ d, parC s = d ∧ parB s = true ∧ Pure Try.prog 8 [.agg (cfC d)] (sD (tx s)) := by
  cases hp : parT s with
  | none => exact .inl ⟨by rw [parC, hp]; rfl, by rw [parB, hp]; rfl⟩
  | some d =>
   have hd : parC s = d := by rw [parC, hp]; rfl
   have hO := okC_par h
   rw [hd] at hO
   obtain ⟨q1, q2⟩ := parT_show hp
   have := show29_ok d hO
   rw [show showF d = s by rw [showF, q1]; exact q2] at this
   exact .inr ⟨d, hd, by rw [parB, hp]; rfl, this⟩
 have c5 : Pure Try.prog 14 [.agg (cfC cf0), .agg [.gs none 0, .gs none 0, .gs none 0, .gs none 0]] _ := Fun.args29 (rsame_ok cf0 cf0 okC0 okC0) (wk_cons (wk_cf cf0) (wk_cons wk_c0 wk_end))
 rw [sameC_refl] at c5
 obtain ⟨e1, hc1⟩ : ∃ x, decide (tx t = { data := #[] }) = x := ⟨_, rfl⟩
 have hx : e1 = !f := by
  rcases hc with ⟨rfl, rfl, rfl⟩ | ⟨q, rfl, rfl⟩
  ·rw [← hc1]; exact decide_eq_true rfl
  ·rw [← hc1]; exact decide_eq_false fun h => q (tx_inj.1 h)
 have hq : (a.regs.length = b.regs.length ∧ a.bufs.length = b.bufs.length) → (chgF a b = 0 ∧ sameC a b = true) ∨ (chgF a b ≠ 0 ∧ sameC a b = false) := fun ⟨q1, q2⟩ => by
  have := hcs q1 q2
  cases hs : sameC a b with
  | true => exact .inl ⟨this.2 hs, rfl⟩
  | false => exact .inr ⟨fun h => by (rw [this.1 h] at hs; cases hs), rfl⟩
 clear hcs
 generalize chgF a b = n at *
 generalize sameC a b = sm at *
 cases f
 case' false =>
  obtain ⟨rfl, rfl⟩ : t = [] ∧ e = cf0 := by
   rcases hc with ⟨a, b, _⟩ | ⟨_, _, h⟩
   ·exact ⟨a, b⟩
   ·cases h
 case' true =>
  obtain rfl : a = e := by
   rcases hc with ⟨_, _, h⟩ | ⟨_, h, _⟩
   ·cases h
   ·exact h.symm
 all_goals
  subst hx
  rcases hS with ⟨y1, y2⟩ | ⟨d, y1, y2, c4⟩
  all_goals rw [y1, y2] at cS
 all_goals
  simp only [Bool.not_false, Bool.not_true] at hc1
  by_cases hl : a.regs.length = b.regs.length ∧ a.bufs.length = b.bufs.length
  case' pos =>
   rcases hq hl with ⟨hn, rfl⟩ | ⟨hn, rfl⟩
   case' inr => have e3 : (((n : Nat) : Int) == 0) = false := by rw [beq_eq_false_iff_ne]; omega
   case' inl => have e3 : (((n : Nat) : Int) == 0) = true := by rw [hn]; rfl
  case' neg => have e3 : (0 : Nat) = 0 := rfl
 all_goals
  repeat' first | refine vb rfl rfl rfl rfl ?_ | refine dr (id := 11) T 10 (by kernel_rfl) ?_ | refine gn ?_ | (first | apply VCg.step T rfl rfl | apply exF); focus ((try simp (disch := omega) only [go_sem, Nat.reduceBEq, Nat.reduceAdd, Nat.reduceLeDiff, Bool.not_false, beq_self_eq_true, e3]); (first | exact rfl | refine Op1.callp rfl rfl (c6) rfl ?_; exact ⟨rfl, rfl⟩ | refine Op1.callp rfl rfl (c7) rfl ?_; exact ⟨rfl, rfl⟩)) | refine VCg.gstep T rfl rfl rfl rfl ?_; try simp only [GB] | refine vs T rfl fun K hK => ?_; (try simp (disch := omega) only [go_sem, Nat.reduceBEq, Nat.reduceAdd, Nat.reduceLeDiff, Bool.not_true, Bool.not_false, beq_self_eq_true, decide_true, tx_size, hc1, rowsI_len, bufsR_len]); (first | refine hK _ _ ?_; clear hK K | intro bq hbq; (try simp only [HB] at hbq); refine hK _ _ ?_; clear hK K | refine Op1.callp rfl rfl (l1) rfl ?_; refine hK _ _ ?_; clear hK K | refine Op1.callp rfl rfl (l2) rfl ?_; refine hK _ _ ?_; clear hK K | refine Op1.callp rfl rfl (ck) rfl ?_; refine hK _ _ ?_; clear hK K | refine Op1.callp rfl rfl (c1) rfl ?_; refine hK _ _ ?_; clear hK K | refine Op1.callp rfl rfl (c2) rfl ?_; refine hK _ _ ?_; clear hK K | refine Op1.callp rfl rfl (c3) rfl ?_; refine hK _ _ ?_; clear hK K | refine Op1.callp rfl rfl (cS) rfl ?_; refine hK _ _ ?_; clear hK K | refine Op1.callp rfl rfl (c4) rfl ?_; refine hK _ _ ?_; clear hK K | refine Op1.callp rfl rfl (c5) rfl ?_; refine hK _ _ ?_; clear hK K) | refine st rfl ?_ | refine sc rfl ?_ | refine nl ?_ | refine gs rfl rfl ?_ | refine gu rfl rfl ?_ | exact ret1 T (List.nil_sublist _) ⟨rfl, rfl⟩ | with_reducible refine gsplit_intro (fun hc => ?_) (fun hc => ?_) <;> (try simp only [decide_eq_true_eq, decide_eq_false_iff_not, beq_iff_eq, beq_eq_false_iff_ne, ne_eq, Bool.not_eq_true', Bool.not_eq_false', gt_iff_lt, Int.not_lt] at hc) <;> (try (exfalso; omega))
 all_goals trace_state
 all_goals sorry
end Go.Proofs.Ytomcmfbpmkklmaa
