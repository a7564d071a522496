/- What each instruction does to a configuration of one's own. No condition. -/
import Derived.Test.YtlnmljmeahknaaaGreatYi
namespace Go.Proofs.YtlnmljmeahknaaaGreat
set_option linter.unusedSimpArgs false
set_option linter.unusedVariables false
set_option maxRecDepth 20000
open Go Go.Proofs Go.Vc

def memX (c : Cf) (x : Ins) : Int := c.mem.getD x.loc.toNat 0
theorem mem_ok (u : Un) (c : Cf) (m r t : Int) (x : Ins) (hx : 0 ≤ x.loc ∧ x.loc < c.mem.length) : Pure Tryz.prog 124 [.pt (doF u c m r t x)] (iD (memX c x)) := by
  obtain ⟨v, hv⟩ : ∃ v, c.mem[x.loc.toNat]? = some v := ⟨_, List.getElem?_eq_getElem (by omega)⟩
  have rv : (iRs c.mem)[x.loc.toNat]? = some [iD v] := by rw [iRs_at, hv]; rfl
  have hM : memX c x = v := by simp [memX, List.getD_eq_getElem?_getD, hv]
  rw [hM]
  refine Fun.of T [.tmp 2] Tryz.func124 rfl Tryz.ntmps124 Tryz.results124 rfl (by kernel_rfl) ?_
  repeat' first | refine VC.draw (id := 1) T 10 (by kernel_rfl) (by kernel_rfl) (by kernel_rfl) ?_ | refine VCg.nil T ?_; simp only [allK, WB] | apply VCg.step T rfl rfl; focus ((try simp (disch := omega) only [WB, Nat.reduceBEq, T3, T22, T29, T68, T140]); (exact rfl)) | refine VCo.step T rfl rfl (fun K hK => ?_); (try simp (disch := omega) only [WB, argE, Nat.reduceBEq, T3, T22, T29, T68, T140, rv, iRs_len]); (first | refine hK _ _ ?_; clear hK K | refine ⟨?_, hK _ _ ?_⟩ <;> clear hK K; focus (try omega)) | refine VC.region ?_ | refine VC.seq' ?_ | (first | refine VCo.nil ?_ | refine VC.ret ?_); (try simp only [QB]) | refine ret1 T (List.nil_sublist _) ?_; (try simp only [upd, Nat.reduceBEq, cond_true, cond_false, and_true])

/-- What an instruction needs, to be done. -/
structure Fit (u : Un) (c : Cf) (i : Nat) (x : Ins) (row : List Int) (b : List En) : Prop where
  okc : OkC c
  pc : i < c.pc.length
  reg : c.regs[i]? = some row
  buf : c.bufs[i]? = some b
  e : x.e.length ≤ 1000
  f : x.f.length ≤ 1000
  r : (x.op = 2 ∨ x.op = 3 ∨ x.op = 5 ∨ x.op = 6 ∨ x.op = 7) → 0 ≤ x.reg ∧ x.reg < row.length
  l : (x.op = 4 ∨ x.op = 5 ∨ x.op = 6 ∨ x.op = 7) → 0 ≤ x.loc ∧ x.loc < c.mem.length
  m : ∀ n, n ∈ c.mem → -1000000 ≤ n ∧ n ≤ 1000000
  v : -1000000 ≤ valX u row x.e ∧ valX u row x.e ≤ 1000000
  md : u.md ≠ 0

theorem memX_in {u : Un} {c : Cf} {i : Nat} {x : Ins} {row : List Int} {b : List En} (h : Fit u c i x row b) : -1000000 ≤ memX c x ∧ memX c x ≤ 1000000 := by
  unfold memX
  rw [List.getD_eq_getElem?_getD]
  cases hv : c.mem[x.loc.toNat]? with
  | none => simp
  | some v => exact h.m v (List.mem_of_getElem? hv)

def setRX (c : Cf) (i : Nat) (row : List Int) (x : Ins) (n : Int) : Cf := setR c i (row.set x.reg.toNat n)
/-- Where an instruction leads, the thread's place having gone on. -/
def afterX (u : Un) (c : Cf) (m : Int) (i : Nat) (x : Ins) (row : List Int) (b : List En) : Cf :=
  if x.op = 20 then setP c i x.to else if x.op = 21 then (if valX u row x.e = 0 then setP c i x.to else c) else if x.op = 2 then setRX c i row x (valX u row x.e) else if x.op = 3 then setRX c i row x (readF c (i : Nat) x.loc)
  else if x.op = 4 then (if m = 1 then setM c x.loc.toNat (valX u row x.e) else setB c i (pushF m (x.loc, valX u row x.e) b))
  else if x.op = 5 then (if memX c x = valX u row x.e then setM (setRX c i row x (memX c x)) x.loc.toNat (valX u row x.f) else setRX c i row x (memX c x))
  else if x.op = 6 then setM (setRX c i row x (memX c x)) x.loc.toNat ((memX c x + valX u row x.e).tmod u.md)
  else if x.op = 7 then setM (setRX c i row x (memX c x)) x.loc.toNat (valX u row x.e)
  else c
abbrev DoesTo (f : Nat) (bd : Nat) (u : Un) (q : OC) (c : Cf) (m r : Int) (i : Nat) (x : Ins) (c2 : Cf) : Prop :=
  Fun Tryz.prog f [pD bd] (dW bd u q c m r (i : Nat) x) false (fun d H' => ∃ q' : OC, q'.ok c2 ∧ d = .tup [] ∧ H' = dW bd u q' c2 m r (i : Nat) x)

section
variable (bd : Nat) (u : Un) (q : OC) (c : Cf) (hq : q.ok c) (m r : Int) (i : Nat) (x : Ins) (row : List Int) (b : List En) (h : Fit u c i x row b)
include hq h

set_option maxHeartbeats 4000000 in
theorem compute_ok (ho : x.op = 2) : DoesTo 109 bd u q c m r i x (setRX c i row x (valX u row x.e)) := by
  have c1 := dvalue_ok u c m r i x row h.reg x.e h.e (h.okc.row row (List.mem_of_getElem? h.reg))
  have c2 := set_ok bd u q c hq m r i x row h.reg (h.r (.inl ho)) (valX u row x.e)
  have hfz := dW_fz2 (bd := bd) (u := u) (m := m) (r := r) (t := (i : Nat)) (x := x) hq (opsD x.e)
  refine Fun.of T [] Tryz.func109 rfl Tryz.ntmps109 Tryz.results109 rfl (by kernel_rfl) ?_
  show VC _ _ _ ⟨_, (bd, .cells 140 18 (doO u q c m r (i : Nat) x)) :: q.h c []⟩ _
  repeat' first | refine VCo.step T rfl rfl (fun K hK => ?_); (try simp (disch := omega) only [WB, argE, Nat.reduceBEq, Nat.reduceAdd, T66, T68, T72, T140]); (first | refine hK _ _ ?_; clear hK K | refine Op1.lend rfl rfl (c1) (hfz) (.inr rfl) ?_; refine hK _ _ ?_; clear hK K | refine Op1.cally (Hr := []) rfl rfl (c2) rfl (by rw [List.append_nil]; exact List.Perm.refl _) (fun q hq => ?_); refine hK _ _ ?_; clear hK K) | refine VC.region ?_ | (refine VCo.nil ?_)
  exact ⟨[], _, rfl, List.Sublist.refl _, q, hq, rfl, by first | exact List.append_nil _ | rfl⟩

set_option maxHeartbeats 4000000 in
theorem load_ok (ho : x.op = 3) : DoesTo 110 bd u q c m r i x (setRX c i row x (readF c (i : Nat) x.loc)) := by
  have c1 := reads_ok c h.okc.buf (i : Nat) x.loc
  have c2 := set_ok bd u q c hq m r i x row h.reg (h.r (.inr (.inl ho))) (readF c (i : Nat) x.loc)
  have hfz := dW_fzC (bd := bd) (u := u) (m := m) (r := r) (t := (i : Nat)) (x := x) hq (iD (i : Nat)) (iD x.loc)
  refine Fun.of T [] Tryz.func110 rfl Tryz.ntmps110 Tryz.results110 rfl (by kernel_rfl) ?_
  show VC _ _ _ ⟨_, (bd, .cells 140 18 (doO u q c m r (i : Nat) x)) :: q.h c []⟩ _
  repeat' first | refine VC.draw (id := 0) T 15 (by kernel_rfl) (by kernel_rfl) (by kernel_rfl) ?_ | refine VCg.nil T ?_; simp only [allK, WB] | apply VCg.step T rfl rfl; focus ((try simp (disch := omega) only [WB, argE, Nat.reduceBEq, Nat.reduceAdd, Nat.reduceLeDiff, T3, T29, T68, T140]); (first | exact rfl | refine Op1.lend rfl rfl (c1) (hfz) (.inr rfl) ?_; exact ⟨rfl, rfl⟩)) | refine VCo.step T rfl rfl (fun K hK => ?_); (try simp (disch := omega) only [WB, argE, T3, T29, T68, T140]); (refine Op1.cally (Hr := []) rfl rfl (c2) rfl (by rw [List.append_nil]; exact List.Perm.refl _) (fun q hq => ?_); refine hK _ _ ?_; clear hK K) | (refine VCo.nil ?_)
  exact ⟨[], _, rfl, List.Sublist.refl _, q, hq, rfl, by first | exact List.append_nil _ | rfl⟩

set_option maxHeartbeats 4000000 in
theorem write_sc (ho : x.op = 4) (hm : (m == 1) = true) : DoesTo 111 bd u q c m r i x (setM c x.loc.toNat (valX u row x.e)) := by
  have c1 := dvalue_ok u c m r i x row h.reg x.e h.e (h.okc.row row (List.mem_of_getElem? h.reg))
  have c2 := store_ok bd u q c hq m r (i : Nat) x (h.l (.inl ho)) (valX u row x.e)
  have hfz := dW_fz2 (bd := bd) (u := u) (m := m) (r := r) (t := (i : Nat)) (x := x) hq (opsD x.e)
  refine Fun.of T [] Tryz.func111 rfl Tryz.ntmps111 Tryz.results111 rfl (by kernel_rfl) ?_
  show VC _ _ _ ⟨_, (bd, .cells 140 18 (doO u q c m r (i : Nat) x)) :: q.h c []⟩ _
  repeat' first | refine VCo.step T rfl rfl (fun K hK => ?_); (try simp (disch := omega) only [WB, argE, Nat.reduceBEq, Nat.reduceAdd, T3, T27, T29, T51, T66, T68, T72, T78, T140, hm]); (first | refine hK _ _ ?_; clear hK K | refine Op1.lend rfl rfl (c1) (hfz) (.inr rfl) ?_; refine hK _ _ ?_; clear hK K | refine Op1.cally (Hr := []) rfl rfl (c2) rfl (by rw [List.append_nil]; exact List.Perm.refl _) (fun q hq => ?_); refine hK _ _ ?_; clear hK K) | refine VC.region ?_ | refine VC.seq' ?_ | (first | refine VCo.nil ?_ | refine VC.ret ?_); (try simp only [QB]) | refine VC.cond rfl ?_; (try simp only [gsplit_true])
  exact ⟨[], _, rfl, List.Sublist.refl _, q, hq, rfl, by first | exact List.append_nil _ | rfl⟩

set_option maxHeartbeats 4000000 in
theorem jump_ok : DoesTo 112 bd u q c m r i x (setP c i x.to) := by
  have c2 := goes_ok bd u q c hq m r i h.pc x x.to
  refine Fun.of T [] Tryz.func112 rfl Tryz.ntmps112 Tryz.results112 rfl (by kernel_rfl) ?_
  show VC _ _ _ ⟨_, (bd, .cells 140 18 (doO u q c m r (i : Nat) x)) :: q.h c []⟩ _
  repeat' first | refine VCo.step T rfl rfl (fun K hK => ?_); (try simp (disch := omega) only [WB, argE, Nat.reduceBEq, Nat.reduceAdd, T3, T68, T140]); (first | refine hK _ _ ?_; clear hK K | refine Op1.cally (Hr := []) rfl rfl (c2) rfl (by rw [List.append_nil]; exact List.Perm.refl _) (fun q hq => ?_); refine hK _ _ ?_; clear hK K) | refine VC.region ?_ | (refine VCo.nil ?_)
  exact ⟨[], _, rfl, List.Sublist.refl _, q, hq, rfl, by first | exact List.append_nil _ | rfl⟩

set_option maxHeartbeats 4000000 in
theorem branch_ok : DoesTo 113 bd u q c m r i x (if valX u row x.e = 0 then setP c i x.to else c) := by
  have c1 := dvalue_ok u c m r i x row h.reg x.e h.e (h.okc.row row (List.mem_of_getElem? h.reg))
  have c2 := goes_ok bd u q c hq m r i h.pc x x.to
  have hfz := dW_fz2 (bd := bd) (u := u) (m := m) (r := r) (t := (i : Nat)) (x := x) hq (opsD x.e)
  refine Fun.of T [] Tryz.func113 rfl Tryz.ntmps113 Tryz.results113 rfl (by kernel_rfl) ?_
  show VC _ _ _ ⟨_, (bd, .cells 140 18 (doO u q c m r (i : Nat) x)) :: q.h c []⟩ _
  by_cases h0 : valX u row x.e = 0
  · have e0 : (valX u row x.e == 0) = true := by simpa using h0
    rw [if_pos h0]
    repeat' first | refine VCo.step T rfl rfl (fun K hK => ?_); (try simp (disch := omega) only [WB, argE, Nat.reduceBEq, Nat.reduceAdd, T3, T66, T68, T72, T140, e0]); (first | refine hK _ _ ?_; clear hK K | refine Op1.lend rfl rfl (c1) (hfz) (.inr rfl) ?_; refine hK _ _ ?_; clear hK K | refine Op1.cally (Hr := []) rfl rfl (c2) rfl (by rw [List.append_nil]; exact List.Perm.refl _) (fun q hq => ?_); refine hK _ _ ?_; clear hK K) | refine VC.region ?_ | refine VC.seq' ?_ | (refine VCo.nil ?_); (try simp only [QB]) | refine VC.cond rfl ?_; (try simp only [gsplit_true])
    exact ⟨[], _, rfl, List.Sublist.refl _, q, hq, rfl, by first | exact List.append_nil _ | rfl⟩
  · have e0 : (valX u row x.e == 0) = false := by simpa using h0
    rw [if_neg h0]
    repeat' first | refine VCo.step T rfl rfl (fun K hK => ?_); (try simp (disch := omega) only [WB, argE, Nat.reduceBEq, Nat.reduceAdd, T3, T66, T68, T72, T140, e0]); (first | refine hK _ _ ?_; clear hK K | refine Op1.lend rfl rfl (c1) (hfz) (.inr rfl) ?_; refine hK _ _ ?_; clear hK K) | refine VC.region ?_ | refine VC.seq' ?_ | (first | refine VCo.nil ?_ | refine VC.skip ?_); (try simp only [QB]) | refine VC.cond rfl ?_; (try simp only [gsplit_false])
    exact ⟨[], _, rfl, List.Sublist.refl _, q, hq, rfl, rfl⟩

set_option maxHeartbeats 8000000 in
theorem exchange_ok (ho : x.op = 7) : DoesTo 116 bd u q c m r i x (setM (setRX c i row x (memX c x)) x.loc.toNat (valX u row x.e)) := by
  have c1 := dvalue_ok u c m r i x row h.reg x.e h.e (h.okc.row row (List.mem_of_getElem? h.reg))
  have c0 := mem_ok u c m r (i : Nat) x (h.l (.inr (.inr (.inr ho))))
  have c2 := set_ok bd u q c hq m r i x row h.reg (h.r (.inr (.inr (.inr (.inr ho))))) (memX c x)
  have c3 := fun (q2 : OC) (h2 : q2.ok (setRX c i row x (memX c x))) => store_ok bd u q2 (setRX c i row x (memX c x)) h2 m r (i : Nat) x (h.l (.inr (.inr (.inr ho)))) (valX u row x.e)
  have hfz := dW_fz2 (bd := bd) (u := u) (m := m) (r := r) (t := (i : Nat)) (x := x) hq (opsD x.e)
  have hfz0 := dW_fz1 (bd := bd) (u := u) (m := m) (r := r) (t := (i : Nat)) (x := x) hq
  refine Fun.of T [] Tryz.func116 rfl Tryz.ntmps116 Tryz.results116 rfl (by kernel_rfl) ?_
  show VC _ _ _ ⟨_, (bd, .cells 140 18 (doO u q c m r (i : Nat) x)) :: q.h c []⟩ _
  repeat' first | refine VC.draw (id := 0) T 8 (by kernel_rfl) (by kernel_rfl) (by kernel_rfl) ?_ | refine VCg.nil T ?_; simp only [allK, WB] | apply VCg.step T rfl rfl; focus ((try simp (disch := omega) only [WB, argE, Nat.reduceBEq, Nat.reduceAdd, T66, T68, T72, T140]); (first | exact rfl | refine Op1.lend rfl rfl (c0) (hfz0) (.inr rfl) ?_; exact ⟨rfl, rfl⟩)) | refine VCo.step T rfl rfl (fun K hK => ?_); (try simp (disch := omega) only [WB, argE, Nat.reduceBEq, T66, T68, T72, T140]); (first | refine hK _ _ ?_; clear hK K | refine Op1.lend rfl rfl (c1) (hfz) (.inr rfl) ?_; refine hK _ _ ?_; clear hK K | refine Op1.cally (Hr := []) rfl rfl (c2) rfl (by rw [List.append_nil]; exact List.Perm.refl _) (fun q hq => ?_); refine hK _ _ ?_; clear hK K | refine Op1.cally (Hr := []) rfl rfl (c3 q hq) rfl (by rw [List.append_nil]; exact List.Perm.refl _) (fun q hq => ?_); refine hK _ _ ?_; clear hK K) | refine VC.region ?_ | refine VC.seq' ?_ | (refine VCo.nil ?_); (try simp only [QB])
  exact ⟨[], _, rfl, List.Sublist.refl _, q, hq, rfl, by first | exact List.append_nil _ | rfl⟩

set_option maxHeartbeats 8000000 in
theorem add_ok (ho : x.op = 6) : DoesTo 115 bd u q c m r i x (setM (setRX c i row x (memX c x)) x.loc.toNat ((memX c x + valX u row x.e).tmod u.md)) := by
  have c1 := dvalue_ok u c m r i x row h.reg x.e h.e (h.okc.row row (List.mem_of_getElem? h.reg))
  have c0 := mem_ok u c m r (i : Nat) x (h.l (.inr (.inr (.inl ho))))
  have c2 := set_ok bd u q c hq m r i x row h.reg (h.r (.inr (.inr (.inr (.inl ho))))) (memX c x)
  have c3 := fun (q2 : OC) (h2 : q2.ok (setRX c i row x (memX c x))) => store_ok bd u q2 (setRX c i row x (memX c x)) h2 m r (i : Nat) x (h.l (.inr (.inr (.inl ho)))) ((memX c x + valX u row x.e).tmod u.md)
  have hfz := dW_fz2 (bd := bd) (u := u) (m := m) (r := r) (t := (i : Nat)) (x := x) hq (opsD x.e)
  have hfz0 := dW_fz1 (bd := bd) (u := u) (m := m) (r := r) (t := (i : Nat)) (x := x) hq
  have hb := memX_in h
  have hv := h.v
  have hw : IntKind.i64.wrap (memX c x + valX u row x.e) = memX c x + valX u row x.e := by rw [w64 (by omega)]
  have hmd := h.md
  refine Fun.of T [] Tryz.func115 rfl Tryz.ntmps115 Tryz.results115 rfl (by kernel_rfl) ?_
  show VC _ _ _ ⟨_, (bd, .cells 140 18 (doO u q c m r (i : Nat) x)) :: q.h c []⟩ _
  repeat' first | refine VC.draw (id := 0) T 8 (by kernel_rfl) (by kernel_rfl) (by kernel_rfl) ?_ | refine VCg.nil T ?_; simp only [allK, WB] | apply VCg.step T rfl rfl; focus ((try simp (disch := omega) only [WB, argE, Nat.reduceBEq, Nat.reduceAdd, T3, T25, T66, T68, T72, T140]); (first | exact rfl | refine Op1.lend rfl rfl (c0) (hfz0) (.inr rfl) ?_; exact ⟨rfl, rfl⟩)) | refine VCo.step T rfl rfl (fun K hK => ?_); (try simp (disch := omega) only [WB, argE, Nat.reduceBEq, T3, T25, T66, T68, T72, T140, dW, hw, hmd, ne_eq, not_false_eq_true]); (first | refine hK _ _ ?_; clear hK K | refine Op1.lend rfl rfl (c1) (hfz) (.inr rfl) ?_; refine hK _ _ ?_; clear hK K | refine Op1.cally (Hr := []) rfl rfl (c2) rfl (by rw [List.append_nil]; exact List.Perm.refl _) (fun q hq => ?_); refine hK _ _ ?_; clear hK K | refine Op1.cally (Hr := []) rfl rfl (c3 q hq) rfl (by rw [List.append_nil]; exact List.Perm.refl _) (fun q hq => ?_); refine hK _ _ ?_; clear hK K) | refine VC.region ?_ | refine VC.seq' ?_ | (refine VCo.nil ?_); (try simp only [QB])
  exact ⟨[], _, rfl, List.Sublist.refl _, q, hq, rfl, by first | exact List.append_nil _ | rfl⟩

set_option maxHeartbeats 8000000 in
theorem swap_ok (ho : x.op = 5) : DoesTo 114 bd u q c m r i x (if memX c x = valX u row x.e then setM (setRX c i row x (memX c x)) x.loc.toNat (valX u row x.f) else setRX c i row x (memX c x)) := by
  have c1 := dvalue_ok u c m r i x row h.reg x.e h.e (h.okc.row row (List.mem_of_getElem? h.reg))
  have c1f := dvalue_ok u c m r i x row h.reg x.f h.f (h.okc.row row (List.mem_of_getElem? h.reg))
  have c0 := mem_ok u c m r (i : Nat) x (h.l (.inr (.inl ho)))
  have c2 := set_ok bd u q c hq m r i x row h.reg (h.r (.inr (.inr (.inl ho)))) (memX c x)
  have c3 := fun (q2 : OC) (h2 : q2.ok (setRX c i row x (memX c x))) => store_ok bd u q2 (setRX c i row x (memX c x)) h2 m r (i : Nat) x (h.l (.inr (.inl ho))) (valX u row x.f)
  have hfz := dW_fz2 (bd := bd) (u := u) (m := m) (r := r) (t := (i : Nat)) (x := x) hq (opsD x.e)
  have hfzf := dW_fz2 (bd := bd) (u := u) (m := m) (r := r) (t := (i : Nat)) (x := x) hq (opsD x.f)
  have hfz0 := dW_fz1 (bd := bd) (u := u) (m := m) (r := r) (t := (i : Nat)) (x := x) hq
  refine Fun.of T [] Tryz.func114 rfl Tryz.ntmps114 Tryz.results114 rfl (by kernel_rfl) ?_
  show VC _ _ _ ⟨_, (bd, .cells 140 18 (doO u q c m r (i : Nat) x)) :: q.h c []⟩ _
  by_cases h0 : memX c x = valX u row x.e
  · have e0 : (memX c x == valX u row x.e) = true := by simpa using h0
    rw [if_pos h0]
    repeat' first | refine VC.draw (id := 0) T 15 (by kernel_rfl) (by kernel_rfl) (by kernel_rfl) ?_ | refine VCg.nil T ?_; simp only [allK, WB] | apply VCg.step T rfl rfl; focus ((try simp (disch := omega) only [WB, argE, Nat.reduceBEq, Nat.reduceAdd, T3, T66, T68, T72, T140]); (first | exact rfl | refine Op1.lend rfl rfl (c0) (hfz0) (.inr rfl) ?_; exact ⟨rfl, rfl⟩ | refine Op1.lend rfl rfl (c1) (hfz) (.inr rfl) ?_; exact ⟨rfl, rfl⟩)) | refine VCo.step T rfl rfl (fun K hK => ?_); (try simp (disch := omega) only [WB, argE, Nat.reduceBEq, T3, T66, T68, T72, T140, e0]); (first | refine hK _ _ ?_; clear hK K | refine Op1.lend rfl rfl (c1f) (hfzf) (.inr rfl) ?_; refine hK _ _ ?_; clear hK K | refine Op1.cally (Hr := []) rfl rfl (c2) rfl (by rw [List.append_nil]; exact List.Perm.refl _) (fun q hq => ?_); refine hK _ _ ?_; clear hK K | refine Op1.cally (Hr := []) rfl rfl (c3 q hq) rfl (by rw [List.append_nil]; exact List.Perm.refl _) (fun q hq => ?_); refine hK _ _ ?_; clear hK K) | refine VC.region ?_ | refine VC.seq' ?_ | (refine VCo.nil ?_); (try simp only [QB]) | refine VC.cond rfl ?_; (try simp only [gsplit_true])
    exact ⟨[], _, rfl, List.Sublist.refl _, q, hq, rfl, by first | exact List.append_nil _ | rfl⟩
  · have e0 : (memX c x == valX u row x.e) = false := by simpa using h0
    rw [if_neg h0]
    repeat' first | refine VC.draw (id := 0) T 15 (by kernel_rfl) (by kernel_rfl) (by kernel_rfl) ?_ | refine VCg.nil T ?_; simp only [allK, WB] | apply VCg.step T rfl rfl; focus ((try simp (disch := omega) only [WB, argE, Nat.reduceBEq, Nat.reduceAdd, T3, T66, T68, T72, T140]); (first | exact rfl | refine Op1.lend rfl rfl (c0) (hfz0) (.inr rfl) ?_; exact ⟨rfl, rfl⟩ | refine Op1.lend rfl rfl (c1) (hfz) (.inr rfl) ?_; exact ⟨rfl, rfl⟩)) | refine VCo.step T rfl rfl (fun K hK => ?_); (try simp (disch := omega) only [WB, argE, Nat.reduceBEq, T3, T66, T68, T72, T140, e0]); (first | refine hK _ _ ?_; clear hK K | refine Op1.lend rfl rfl (c1f) (hfzf) (.inr rfl) ?_; refine hK _ _ ?_; clear hK K | refine Op1.cally (Hr := []) rfl rfl (c2) rfl (by rw [List.append_nil]; exact List.Perm.refl _) (fun q hq => ?_); refine hK _ _ ?_; clear hK K) | refine VC.region ?_ | refine VC.seq' ?_ | (first | refine VCo.nil ?_ | refine VC.skip ?_); (try simp only [QB]) | refine VC.cond rfl ?_; (try simp only [gsplit_false])
    exact ⟨[], _, rfl, List.Sublist.refl _, q, hq, rfl, by first | exact List.append_nil _ | rfl⟩
end
end Go.Proofs.YtlnmljmeahknaaaGreat
