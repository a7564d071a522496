/- Contracts: whether a case is right, and light; what is so of a right one. No condition. -/
import Derived.Test.YtomcmfbpmkklmaaGreatYq
import Derived.Test.YtomcmfbpmkklmaaGreatXk
import Derived.Test.YtomcmfbpmkklmaaGreatK2
namespace Go.Proofs.YtomcmfbpmkklmaaGreat
set_option linter.unusedSimpArgs false
set_option linter.unusedVariables false
set_option maxRecDepth 20000
open Go Go.Proofs Go.Vc
theorem okU_light {u : Un} (h : lightU u = true) : OkU u := by
 simp only [lightU, lightR, lightI, Bool.and_eq_true, decide_eq_true_eq, List.all_eq_true] at h
 obtain ⟨⟨⟨h1, h2⟩, h3⟩, h4⟩ := h
 exact ⟨by omega, by omega, by omega, fun r hr => by have := (h4 r hr).1; omega, fun r hr x hx => by have := (h4 r hr).2 x hx; omega⟩
theorem rightR_at {m r md lc : Int} {b : List En} (h : rightR m r md lc b = true) {e : En} (he : e ∈ b) : 0 ≤ e.1 ∧ e.1 < lc ∧ 0 ≤ e.2 ∧ e.2 < md := by
 simp only [rightR, Bool.and_eq_true, List.all_eq_true] at h
 obtain ⟨i, hi⟩ := List.getElem?_of_mem he
 have := h.1.2 i (List.mem_range.2 (List.getElem?_eq_some_iff.1 hi).1)
 simp only [badAt, badE, hi, Option.getD_some, Bool.not_eq_true', Bool.or_eq_false_iff, decide_eq_false_iff_not] at this
 omega
structure Rt (u : Un) (c : Cf) (m r : Int) : Prop where
 okU : OkU u
 okC : OkC c
 rt : rightC u c m r = true
section
variable {u : Un} {c : Cf} {m r : Int}
theorem Rt.head (h : Rt u c m r) : headC u c = true := by
 have := h.rt; simp only [rightC, Bool.and_eq_true] at this; exact this.1.1
theorem Rt.unit (h : Rt u c m r) : unitB u = true := by
 have := h.head; simp only [headC, Bool.and_eq_true] at this; exact this.1.1.1.1.1
theorem Rt.lens (h : Rt u c m r) : c.pc.length = u.regs.length ∧ c.regs.length = u.regs.length ∧ c.bufs.length = u.regs.length ∧ c.mem.length = u.init.length ∧ allB c.mem u.md = true := by
 have := h.head; simp only [headC, Bool.and_eq_true, decide_eq_true_eq] at this
 exact ⟨this.1.1.1.1.2, this.1.1.1.2, this.1.1.2, this.1.2, this.2⟩
theorem Rt.uhead (h : Rt u c m r) : (2 ≤ u.md ∧ u.md ≤ 16) ∧ allB u.init u.md = true ∧ u.init.length ≤ 6 ∧ (1 ≤ u.regs.length ∧ u.regs.length ≤ 4) ∧ u.code.length = u.regs.length := by
 have := h.unit; simp only [unitB, headB, Bool.and_eq_true, decide_eq_true_eq] at this
 exact ⟨⟨this.1.1.1.1.1.1.1, this.1.1.1.1.1.1.2⟩, this.1.1.1.1.1.2, this.1.1.1.1.2, ⟨this.1.1.1.2, this.1.1.2⟩, this.1.2⟩
theorem Rt.thr (h : Rt u c m r) {t : Nat} (ht : t < u.regs.length) : thrB u c m r t = true := by
 have := h.rt; simp only [rightC, Bool.and_eq_true, List.all_eq_true] at this
 exact this.1.2 t (List.mem_range.2 ht)
theorem Rt.tail (h : Rt u c m r) : rightR m r u.md u.init.length [] = true := by
 have := h.rt; simp only [rightC, Bool.and_eq_true] at this; exact this.2
theorem Rt.row (h : Rt u c m r) {t : Nat} (ht : t < u.regs.length) : rowB (u.regs.getD t 0) u.init.length (u.code.getD t []) = true := by
 have := h.unit; simp only [unitB, Bool.and_eq_true, List.all_eq_true] at this
 exact this.2 t (List.mem_range.2 ht)
theorem Rt.gate (h : Rt u c m r) : (1 ≤ m ∧ m ≤ 3) ∧ (1 ≤ r ∧ r ≤ 4) := by
 have := h.tail; simp only [rightR, gateR, Bool.and_eq_true, decide_eq_true_eq] at this
 omega
theorem Rt.locs (h : Rt u c m r) : LocsIn c := by
 intro b hb e he
 obtain ⟨i, hi⟩ := List.getElem?_of_mem hb
 have hl := h.lens
 have hil : i < c.bufs.length := (List.getElem?_eq_some_iff.1 hi).1
 have ht := h.thr (t := i) (by omega)
 simp only [thrB, Bool.and_eq_true, List.getD_eq_getElem?_getD, hi, Option.getD_some] at ht
 have := rightR_at ht.2 he
 omega
end
theorem rcopyF_ok (c : Cf) (hc : OkC c) : Pure Tryz.prog 101 [.agg (cfC c)] (.agg (cfC c)) :=
 Fun.fz ((rcopy_ok c hc).mono fun d H' ⟨q, h1, h2, h3⟩ => by
  rw [h2, h3]
  exact ⟨_, rfl, OC.fzL (X := []) h1 fun y hy => hy⟩)
theorem popF_len {m loc : Int} {b : List En} : (popF m loc b).1.length ≤ b.length := by
 unfold popF
 cases nextF m loc b with
 | none => simp
 | some k => simp [cutF]; omega
theorem OkC.flush {c : Cf} (h : OkC c) (m t loc : Int) : OkC (flushC c m t loc) := by
 unfold flushC
 cases hb : flushB c m t loc with
 | false => exact h
 | true =>
  refine ⟨h.pc, by simpa [setM, setB] using h.mem, h.regs, h.row, by simpa [setM, setB] using h.bufs, fun b hb => ?_⟩
  simp only [setM, setB] at hb
  rcases List.mem_or_eq_of_mem_set hb with h' | rfl
  ·exact h.buf b h'
  ·refine Nat.le_trans popF_len ?_
   rw [List.getD_eq_getElem?_getD]
   cases he : c.bufs[t.toNat]? with
   | none => simp
   | some x => exact h.buf x (List.mem_of_getElem? he)
end Go.Proofs.YtomcmfbpmkklmaaGreat
