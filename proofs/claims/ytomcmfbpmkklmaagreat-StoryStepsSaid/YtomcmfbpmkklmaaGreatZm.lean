/- What is so of each thread of a right configuration. No condition. -/
import Derived.Test.YtomcmfbpmkklmaaGreatZa
import Derived.Test.YtomcmfbpmkklmaaGreatYq
namespace Go.Proofs.YtomcmfbpmkklmaaGreat
set_option maxHeartbeats 16000000
set_option linter.unusedSimpArgs false
set_option linter.unusedVariables false
open Go Go.Proofs Go.Vc
theorem run_at {md : Int} (hm : 2 ≤ md) {own mem : List Int} {all : List (List Int)} {l : List Opc} (h : valB l md own all mem = true) : ∀ k, k ≤ l.length → ∃ s, RunI md own all mem l k s := by
 simp only [valB, codeB, Bool.and_eq_true, List.all_eq_true] at h
 intro k
 induction k with
 | zero => intro _; exact ⟨[], RunI.zero (by simp_all)⟩
 | succ k ih =>
  intro hk
  obtain ⟨s, hs⟩ := ih (by omega)
  obtain ⟨x, hx⟩ : ∃ x, l[k]? = some x := ⟨_, List.getElem?_eq_getElem (by omega)⟩
  exact ⟨_, (hs.next hm hx (by simp_all [List.mem_of_getElem? hx]) (by simp_all) (by simp_all) (by simp_all)).2⟩
theorem valF_in {md : Int} (hm : 2 ≤ md) (own mem : List Int) (all : List (List Int)) (l : List Opc) : 0 ≤ valF l md own all mem ∧ valF l md own all mem < md := by
 unfold valF
 cases hv : valB l md own all mem with
 | false => exact ⟨Int.le_refl _, show (0 : Int) < md by omega⟩
 | true =>
  obtain ⟨s, hs⟩ := run_at hm hv l.length (Nat.le_refl _)
  have hr := hs.run
  rw [List.drop_length] at hr
  simp only
  rw [← hr]
  exact allB_getD hs.inm (by omega) 0
structure At10 (u : Un) (c : Cf) (i : Nat) (x : Ins) (row : List Int) (b : List En) (p : Nat) : Prop where
 thr : Thr u c i x row b
 pc : c.pc[i]? = some (p : Int)
 pl : p ≤ 100000
 fit : Fit u (setP c i ((p + 1 : Nat) : Int)) i x row b
 kind : ∃ rw n, u.code[i]? = some rw ∧ u.regs[i]? = some n ∧ rw[p]? = some x ∧ (row.length : Int) = n ∧ (x.op = 22 ∨ oneB x n u.init.length rw.length = true ∧ p + 1 < rw.length)
theorem OkC.setP {c : Cf} (h : OkC c) (i : Nat) (n : Int) : OkC (setP c i n) := ⟨by simpa [Go.Proofs.YtomcmfbpmkklmaaGreat.setP] using h.pc, h.mem, h.regs, h.row, h.bufs, h.buf⟩
theorem nd_2 : ndF 2 = some ⟨true, false, true, false, false, false⟩ := rfl
theorem nd_3 : ndF 3 = some ⟨true, true, false, false, false, false⟩ := rfl
theorem nd_4 : ndF 4 = some ⟨false, true, true, false, false, false⟩ := rfl
theorem nd_5 : ndF 5 = some ⟨true, true, true, true, false, false⟩ := rfl
theorem nd_6 : ndF 6 = some ⟨true, true, true, false, false, false⟩ := rfl
theorem nd_7 : ndF 7 = some ⟨true, true, true, false, false, false⟩ := rfl
theorem nd_9 : ndF 9 = some ⟨false, true, true, false, true, false⟩ := rfl
theorem nd_20 : ndF 20 = some ⟨false, false, false, false, false, true⟩ := rfl
theorem nd_21 : ndF 21 = some ⟨false, false, true, false, false, true⟩ := rfl
theorem one_reg {x : Ins} {n l k : Int} (h : oneB x n l k = true) (ho : x.op = 2 ∨ x.op = 3 ∨ x.op = 5 ∨ x.op = 6 ∨ x.op = 7) : 0 ≤ x.reg ∧ x.reg < n := by
 unfold oneB at h
 rcases ho with ho | ho | ho | ho | ho
 ·rw [ho, nd_2] at h; simp only [placeB, Bool.and_eq_true] at h; exact inB_spec.1 h.1.1.1.1.1
 ·rw [ho, nd_3] at h; simp only [placeB, Bool.and_eq_true] at h; exact inB_spec.1 h.1.1.1.1.1
 ·rw [ho, nd_5] at h; simp only [placeB, Bool.and_eq_true] at h; exact inB_spec.1 h.1.1.1.1.1
 ·rw [ho, nd_6] at h; simp only [placeB, Bool.and_eq_true] at h; exact inB_spec.1 h.1.1.1.1.1
 ·rw [ho, nd_7] at h; simp only [placeB, Bool.and_eq_true] at h; exact inB_spec.1 h.1.1.1.1.1
theorem one_loc {x : Ins} {n l k : Int} (h : oneB x n l k = true) (ho : x.op = 3 ∨ x.op = 4 ∨ x.op = 5 ∨ x.op = 6 ∨ x.op = 7 ∨ x.op = 9) : 0 ≤ x.loc ∧ x.loc < l := by
 unfold oneB at h
 rcases ho with ho | ho | ho | ho | ho | ho
 ·rw [ho, nd_3] at h; simp only [placeB, Bool.and_eq_true] at h; exact inB_spec.1 h.1.1.1.1.2
 ·rw [ho, nd_4] at h; simp only [placeB, Bool.and_eq_true] at h; exact inB_spec.1 h.1.1.1.1.2
 ·rw [ho, nd_5] at h; simp only [placeB, Bool.and_eq_true] at h; exact inB_spec.1 h.1.1.1.1.2
 ·rw [ho, nd_6] at h; simp only [placeB, Bool.and_eq_true] at h; exact inB_spec.1 h.1.1.1.1.2
 ·rw [ho, nd_7] at h; simp only [placeB, Bool.and_eq_true] at h; exact inB_spec.1 h.1.1.1.1.2
 ·rw [ho, nd_9] at h; simp only [placeB, Bool.and_eq_true] at h; exact inB_spec.1 h.1.1.1.1.2
theorem one_to {x : Ins} {n l k : Int} (h : oneB x n l k = true) (ho : x.op = 20 ∨ x.op = 21) : 0 ≤ x.to ∧ x.to < k := by
 unfold oneB at h
 rcases ho with ho | ho
 ·rw [ho, nd_20] at h; simp only [placeB, Bool.and_eq_true] at h; exact inB_spec.1 h.1.1.1.2
 ·rw [ho, nd_21] at h; simp only [placeB, Bool.and_eq_true] at h; exact inB_spec.1 h.1.1.1.2
theorem Rt.at {u : Un} {c : Cf} {m r : Int} (h : Rt u c m r) {i : Nat} (hi : i < c.pc.length) : ∃ x row b p, At10 u c i x row b p := by
 have hl := h.lens
 have hu := h.uhead
 have hir : i < u.regs.length := by omega
 obtain ⟨n, hn⟩ : ∃ n, u.regs[i]? = some n := ⟨_, List.getElem?_eq_getElem hir⟩
 obtain ⟨rw, hrw⟩ : ∃ r, u.code[i]? = some r := ⟨_, List.getElem?_eq_getElem (by omega)⟩
 obtain ⟨p, hp⟩ : ∃ p, c.pc[i]? = some p := ⟨_, List.getElem?_eq_getElem hi⟩
 obtain ⟨row, hro⟩ : ∃ p, c.regs[i]? = some p := ⟨_, List.getElem?_eq_getElem (by omega)⟩
 obtain ⟨b, hb⟩ : ∃ p, c.bufs[i]? = some p := ⟨_, List.getElem?_eq_getElem (by omega)⟩
 have ht := h.thr hir
 simp only [thrB, Bool.and_eq_true, decide_eq_true_eq, List.getD_eq_getElem?_getD, hn, hrw, hp, hro, hb, Option.getD_some] at ht
 obtain ⟨⟨⟨⟨h0, h1⟩, h2⟩, h3⟩, h4⟩ := ht
 obtain ⟨q, rfl⟩ : ∃ q : Nat, p = (q : Int) := ⟨p.toNat, by omega⟩
 obtain ⟨x, hx⟩ : ∃ x, rw[q]? = some x := ⟨_, List.getElem?_eq_getElem (by omega)⟩
 have hrow := h.row hir
 simp only [rowB, Bool.and_eq_true, decide_eq_true_eq, List.getD_eq_getElem?_getD, hn, hrw, Option.getD_some, List.all_eq_true] at hrow
 obtain ⟨⟨⟨⟨⟨w0, w1⟩, w2⟩, w3⟩, w4⟩, w5⟩ := hrow
 have hrl := h.okU.row rw (List.mem_of_getElem? hrw)
 have hins := h.okU.ins rw (List.mem_of_getElem? hrw) x (List.mem_of_getElem? hx)
 have hk : x.op = 22 ∨ oneB x n u.init.length rw.length = true ∧ q + 1 < rw.length := by
  rcases Nat.lt_or_ge (q + 1) rw.length with hlt | hge
  ·refine .inr ⟨?_, hlt⟩
   have := w5 q (List.mem_range.2 (by omega))
   rwa [hx, Option.getD_some] at this
  ·left
   have : rw.length - 1 = q := by omega
   rw [this, hx, Option.getD_some] at w4
   simp only [doneB, Bool.and_eq_true, decide_eq_true_eq] at w4
   exact w4.1
 have hval : ∀ l, 0 ≤ valX u row l ∧ valX u row l < u.md := fun l => valF_in (by omega) _ _ _ _
 refine ⟨x, row, b, q, ⟨⟨⟨rw, q, hp, hrw, by omega, by rw [Int.toNat_natCast]; exact hx⟩⟩, hro, hb, hins.1, hins.2⟩, hp, by omega, ?_, rw, n, hrw, hn, hx, h2, hk⟩
 exact {
  okc := h.okC.setP i _
  pc := by simpa [setP] using hi
  reg := hro
  buf := hb
  e := hins.1
  f := hins.2
  r := fun ho => by
   rcases hk with hk | ⟨hk, _⟩
   ·omega
   ·have := one_reg hk ho; omega
  l := fun ho => by
   rcases hk with hk | ⟨hk, _⟩
   ·omega
   ·have := one_loc hk (by omega)
    show _ ∧ _ < (c.mem.length : Int)
    omega
  m := fun n hn => by
   have := List.all_eq_true.1 (show c.mem.all (fun n => inB n u.md) = true from hl.2.2.2.2) n hn
   have := inB_spec.1 this
   omega
  v := by have := hval x.e; omega
  md := by omega }
set_option maxRecDepth 20000
attribute [local irreducible] retQ VCg VCw VCx
def actT (u : Un) (c : Cf) (m r t : Int) : Cf := match enT u c m r t with
 | true => match insX u c t.toNat with
  | some x => afterX u (setP c t.toNat (c.pc.getD t.toNat 0 + 1)) m t.toNat x (c.regs.getD t.toNat []) (c.bufs.getD t.toNat [])
  | none => c
 | false => c
theorem actT_at {u : Un} {c : Cf} {m r : Int} {i : Nat} {x : Ins} {row : List Int} {b : List En} {p : Nat} (h : At10 u c i x row b p) : actT u c m r (i : Nat) = actC u c m i x row b p (enT u c m r (i : Nat)) := by
 unfold actT actC
 cases enT u c m r (i : Nat) with
 | false => rfl
 | true =>
  simp only [Int.toNat_natCast, h.thr.at_.ins, List.getD_eq_getElem?_getD, h.pc, h.thr.reg, h.thr.buf, Option.getD_some]
  rfl
theorem actT_no {u : Un} {c : Cf} {m r t : Int} (h : enT u c m r t = false) : actT u c m r t = c := by unfold actT; rw [h]
theorem act_no (u : Un) (c : Cf) (hc : OkC c) (m r t : Int) (h : t < 0 ∨ t ≥ c.pc.length) :
  Fun Tryz.prog 210 [.agg (unC u), .agg (cfC c), iD m, iD r, iD t] [] false (fun d H' => ∃ q : OC, q.ok c ∧ d = .tup [.agg (q.cs c), bD false] ∧ H' = q.h c []) := by
 have cc := copy_ok c hc
 refine Fun.of T [.cell 10 43, .tmp 11] Tryz.func210 rfl Tryz.ntmps210 Tryz.results210 rfl (by kernel_rfl) ?_
 repeat' first | refine vb (t := 25) rfl rfl rfl rfl ?_ | refine vb (t := 43) rfl rfl rfl rfl ?_ | refine VC.drawS (id := 1) (by kernel_rfl) ?_ | refine VCd.group T (s := 0) 6 11 rfl rfl (by kernel_rfl) (by kernel_rfl) (by kernel_rfl) ?_; (try simp only [List.drop_zero, Nat.reduceSub]) | refine VCg.nil T ?_; simp only [allK, WB] | apply VCg.step T rfl rfl; focus ((try simp (disch := omega) only [go_sem, Nat.reduceBEq, Nat.reduceAdd, Nat.reduceLeDiff]); (exact rfl)) | refine VCg.ownx T rfl rfl rfl rfl (cc) rfl ?_ | refine vs T rfl fun K hK => ?_; (try simp (disch := omega) only [go_sem, Nat.reduceAdd]); (first | refine hK _ _ ?_; clear hK K | intro bq hbq; (try simp only [HB] at hbq); refine hK _ _ ?_; clear hK K) | refine st rfl ?_ | refine nl ?_
 rintro _ _ ⟨q, hq, rfl, rfl⟩ hap
 have cn := at_no u c m r t h
 have hfz : FzL ((bq, .cells 43 4 [.gs none 0, .gs none 0, .gs none 0, .gs none 0]) :: q.h c []) [.agg (unC u), .agg (cfC c), iD m, iD r, iD t] [.agg (unC u), .agg (q.cs c), iD m, iD r, iD t] :=
  fz_cons (Fz.refl _ _) (fz_cons ⟨_, rfl, OC.fzL (X := []) hq fun y hy => List.mem_cons_of_mem _ hy⟩ (FzL.refl _ _))
 refine VCd.weak (Weak.perm (H' := (bq, .cells 43 4 [.gs none 0, .gs none 0, .gs none 0, .gs none 0]) :: q.h c []) (perm_of fun a => by simp only [cnt_cons, cnt_app, cnt_nil]; omega)) ?_
 repeat' first | refine VCd.tail (f := 11) (by kernel_rfl) ?_; (try simp only [List.drop_succ_cons, List.drop_zero]) | refine VCd.group T (s := 6) 11 11 rfl rfl (by kernel_rfl) (by kernel_rfl) (by kernel_rfl) ?_; (try simp only [List.drop_succ_cons, List.drop_zero, Nat.reduceSub]) | refine gn ?_ | apply VCg.step T rfl rfl; focus ((try simp (disch := omega) only [go_sem, Nat.reduceBEq]); (first | exact rfl | refine Op1.lend rfl rfl (cn) (hfz) (.inr rfl) ?_; exact ⟨rfl, rfl⟩)) | refine vs T rfl fun K hK => ?_; (try simp (disch := omega) only [go_sem, Nat.reduceBEq, Nat.reduceAdd, Nat.reduceLeDiff, Bool.not_false]); (first | refine hK _ _ ?_; clear hK K | skip) | refine st rfl ?_ | refine sc rfl ?_ | refine nl ?_ | refine ov ?_
 refine Op1.callx rfl rfl cc rfl (fun q2 hq2 => ?_)
 refine hK _ _ ?_
 clear hK K
 refine vo ?_
 refine VCo.weak (Weak.perm (H' := (bq, .cells 43 4 [.gs none 0, .gs none 0, .gs none 0, .gs none 0]) :: (q2.h c [] ++ q.h c [])) (perm_of fun a => by simp only [cnt_cons, cnt_app, cnt_nil]; omega)) ?_
 repeat' first | refine vs T rfl fun K hK => ?_; (try simp (disch := omega) only [go_sem, Nat.reduceBEq, Nat.reduceAdd, Nat.reduceLeDiff, OC.cs]); (refine hK _ _ ?_; clear hK K) | refine st rfl ?_ | refine nl ?_ | refine ov ?_
 exact retc1 T rfl (by (try simp (disch := omega) only [hget_ne, hget_eq]); rfl) rfl rfl rfl ((List.sublist_append_left _ _).trans (List.sublist_cons_self _ _)) ⟨q2, hq2, rfl, rfl⟩
theorem actO_ok {u : Un} {c : Cf} {m r : Int} (h : Rt u c m r) (t : Int) :
  Fun Tryz.prog 210 [.agg (unC u), .agg (cfC c), iD m, iD r, iD t] [] false (fun d H' => ∃ q : OC, q.ok (actT u c m r t) ∧ d = .tup [.agg (q.cs (actT u c m r t)), bD (enT u c m r t)] ∧ H' = q.h (actT u c m r t) []) := by
 by_cases ht : t < 0 ∨ t ≥ c.pc.length
 ·have hn := enT_no (u := u) (m := m) (r := r) ht
  rw [actT_no hn, hn]
  exact act_no u c h.okC m r t ht
 obtain ⟨i, rfl⟩ : ∃ i : Nat, t = (i : Int) := ⟨t.toNat, by omega⟩
 obtain ⟨x, row, b, p, ha⟩ := h.at (i := i) (by omega)
 rw [actT_at ha]
 have := act_ok u c h.okC m r i x row b ha.thr p ha.pc ha.pl ha.fit
 unfold actC
 exact this
theorem actT_ok {u : Un} {c : Cf} {m r : Int} (h : Rt u c m r) (t : Int) : Pure Tryz.prog 210 [.agg (unC u), .agg (cfC c), iD m, iD r, iD t] (.tup [.agg (cfC (actT u c m r t)), bD (enT u c m r t)]) :=
 Fun.fz ((actO_ok h t).mono fun d H' ⟨q, h1, h2, h3⟩ => by
  rw [h2, h3]
  exact cfz h1 (fun y hy => hy) _)
end Go.Proofs.YtomcmfbpmkklmaaGreat
