/- What each instruction does to a configuration of one's own. No condition. -/
import Derived.Test.YtfifcjgcajpnoaaYi
namespace Go.Proofs.Ytfifcjgcajpnoaa
set_option linter.unusedSimpArgs false
set_option linter.unusedVariables false
set_option maxRecDepth 20000
open Go Go.Proofs Go.Vc
attribute [local irreducible] retQ VCg VCw

def memX (c : Cf) (x : Ins) : Int := c.mem.getD x.loc.toNat 0
theorem mem_ok (u : Un) (c : Cf) (m r t : Int) (x : Ins) (hx : 0 ≤ x.loc ∧ x.loc < c.mem.length) : Pure Try.prog 100 [.pt (doF u c m r t x)] (iD (memX c x)) := by
  obtain ⟨v, hv⟩ : ∃ v, c.mem[x.loc.toNat]? = some v := ⟨_, List.getElem?_eq_getElem (by omega)⟩
  have rv : (iRs c.mem)[x.loc.toNat]? = some [iD v] := by rw [iRs_at, hv]; rfl
  have hM : memX c x = v := by simp [memX, List.getD_eq_getElem?_getD, hv]
  rw [hM]
  refine Fun.of T [.tmp 2] Try.func100 rfl Try.ntmps100 Try.results100 rfl (by kernel_rfl) ?_
  repeat' first | refine dr (id := 1) T 10 (by kernel_rfl) ?_ | refine gn ?_ | apply VCg.step T rfl rfl; focus ((try simp (disch := omega) only [go_sem, Nat.reduceBEq]); (exact rfl)) | refine vs T rfl fun K hK => ?_; (try simp (disch := omega) only [go_sem, Nat.reduceBEq, rv, iRs_len]); (first | refine hK _ _ ?_; clear hK K | refine ⟨?_, hK _ _ ?_⟩ <;> clear hK K; focus (try omega)) | refine st rfl ?_ | refine nl ?_ | exact ret1 T (List.nil_sublist _) ⟨rfl, rfl⟩

/-- What an instruction needs, to be done. -/
structure Fit (u : Un) (c : Cf) (i : Nat) (x : Ins) (row : List Int) (b : List En) : Prop where
  okc : OkC c
  pc : i < c.pc.length
  reg : c.regs[i]? = some row
  buf : c.bufs[i]? = some b
  e : x.e.length ≤ 1000
  f : x.f.length ≤ 1000
  r : (x.op = 2 ∨ x.op = 3 ∨ x.op = 5 ∨ x.op = 6 ∨ x.op = 7) → 0 ≤ x.reg ∧ x.reg < row.length
  l : (x.op = 4 ∨ x.op = 5 ∨ x.op = 6 ∨ x.op = 7) → 0 ≤ x.loc ∧ x.loc < c.mem.length
  m : ∀ n, n ∈ c.mem → -1000000 ≤ n ∧ n ≤ 1000000
  v : -1000000 ≤ valX u row x.e ∧ valX u row x.e ≤ 1000000
  md : u.md ≠ 0

theorem memX_in {u : Un} {c : Cf} {i : Nat} {x : Ins} {row : List Int} {b : List En} (h : Fit u c i x row b) : -1000000 ≤ memX c x ∧ memX c x ≤ 1000000 := by
  unfold memX
  rw [List.getD_eq_getElem?_getD]
  cases hv : c.mem[x.loc.toNat]? with
  | none => simp
  | some v => exact h.m v (List.mem_of_getElem? hv)

def setRX (c : Cf) (i : Nat) (row : List Int) (x : Ins) (n : Int) : Cf := setR c i (row.set x.reg.toNat n)
/-- Where an instruction leads, the thread's place having gone on. -/
def afterX (u : Un) (c : Cf) (m : Int) (i : Nat) (x : Ins) (row : List Int) (b : List En) : Cf :=
  if x.op = 20 then setP c i x.to else if x.op = 21 then (if valX u row x.e = 0 then setP c i x.to else c) else if x.op = 2 then setRX c i row x (valX u row x.e) else if x.op = 3 then setRX c i row x (readF c (i : Nat) x.loc)
  else if x.op = 4 then (if m = 1 then setM c x.loc.toNat (valX u row x.e) else setB c i (pushF m (x.loc, valX u row x.e) b))
  else if x.op = 5 then (if memX c x = valX u row x.e then setM (setRX c i row x (memX c x)) x.loc.toNat (valX u row x.f) else setRX c i row x (memX c x))
  else if x.op = 6 then setM (setRX c i row x (memX c x)) x.loc.toNat ((memX c x + valX u row x.e).tmod u.md)
  else if x.op = 7 then setM (setRX c i row x (memX c x)) x.loc.toNat (valX u row x.e)
  else c
abbrev DoesTo (f : Nat) (bd : Nat) (u : Un) (q : OC) (c : Cf) (m r : Int) (i : Nat) (x : Ins) (c2 : Cf) : Prop :=
  Fun Try.prog f [pD bd] (dW bd u q c m r (i : Nat) x) false (fun d H' => ∃ q' : OC, q'.ok c2 ∧ d = .tup [] ∧ H' = dW bd u q' c2 m r (i : Nat) x)

section
variable (bd : Nat) (u : Un) (q : OC) (c : Cf) (hq : q.ok c) (m r : Int) (i : Nat) (x : Ins) (row : List Int) (b : List En) (h : Fit u c i x row b)
include hq h

set_option maxHeartbeats 4000000 in
theorem compute_ok (ho : x.op = 2) : DoesTo 85 bd u q c m r i x (setRX c i row x (valX u row x.e)) := by
  have c1 := dvalue_ok u c m r i x row h.reg x.e h.e (h.okc.row row (List.mem_of_getElem? h.reg))
  have c2 := set_ok bd u q c hq m r i x row h.reg (h.r (.inl ho)) (valX u row x.e)
  have hfz := dW_fz2 (bd := bd) (u := u) (m := m) (r := r) (t := (i : Nat)) (x := x) hq (opsD x.e)
  refine Fun.of T [] Try.func85 rfl Try.ntmps85 Try.results85 rfl (by kernel_rfl) ?_
  show VC _ _ _ ⟨_, (bd, .cells 139 18 (doO u q c m r (i : Nat) x)) :: q.h c []⟩ _
  repeat' first | refine vs T rfl fun K hK => ?_; (try simp (disch := omega) only [go_sem, Nat.reduceBEq, Nat.reduceAdd]); (first | refine hK _ _ ?_; clear hK K | refine Op1.lend rfl rfl (c1) (hfz) (.inr rfl) ?_; refine hK _ _ ?_; clear hK K | refine Op1.cally (Hr := []) rfl rfl (c2) rfl (by rw [List.append_nil]; exact List.Perm.refl _) (fun q hq => ?_); refine hK _ _ ?_; clear hK K) | refine st rfl ?_ | refine nl ?_
  exact ret0 T rfl (List.Sublist.refl _) ⟨q, hq, rfl, by first | exact List.append_nil _ | rfl⟩

set_option maxHeartbeats 4000000 in
theorem load_ok (ho : x.op = 3) : DoesTo 86 bd u q c m r i x (setRX c i row x (readF c (i : Nat) x.loc)) := by
  have c1 := reads_ok c h.okc.buf (i : Nat) x.loc
  have c2 := set_ok bd u q c hq m r i x row h.reg (h.r (.inr (.inl ho))) (readF c (i : Nat) x.loc)
  have hfz := dW_fzC (bd := bd) (u := u) (m := m) (r := r) (t := (i : Nat)) (x := x) hq (iD (i : Nat)) (iD x.loc)
  refine Fun.of T [] Try.func86 rfl Try.ntmps86 Try.results86 rfl (by kernel_rfl) ?_
  show VC _ _ _ ⟨_, (bd, .cells 139 18 (doO u q c m r (i : Nat) x)) :: q.h c []⟩ _
  repeat' first | refine dr (id := 0) T 15 (by kernel_rfl) ?_ | refine gn ?_ | apply VCg.step T rfl rfl; focus ((try simp (disch := omega) only [go_sem, Nat.reduceBEq, Nat.reduceAdd, Nat.reduceLeDiff]); (first | exact rfl | refine Op1.lend rfl rfl (c1) (hfz) (.inr rfl) ?_; exact ⟨rfl, rfl⟩)) | refine vs T rfl fun K hK => ?_; (try simp (disch := omega) only [go_sem]); (refine Op1.cally (Hr := []) rfl rfl (c2) rfl (by rw [List.append_nil]; exact List.Perm.refl _) (fun q hq => ?_); refine hK _ _ ?_; clear hK K) | refine nl ?_
  exact ret0 T rfl (List.Sublist.refl _) ⟨q, hq, rfl, by first | exact List.append_nil _ | rfl⟩

set_option maxHeartbeats 4000000 in
theorem write_sc (ho : x.op = 4) (hm : (m == 1) = true) : DoesTo 87 bd u q c m r i x (setM c x.loc.toNat (valX u row x.e)) := by
  have c1 := dvalue_ok u c m r i x row h.reg x.e h.e (h.okc.row row (List.mem_of_getElem? h.reg))
  have c2 := store_ok bd u q c hq m r (i : Nat) x (h.l (.inl ho)) (valX u row x.e)
  have hfz := dW_fz2 (bd := bd) (u := u) (m := m) (r := r) (t := (i : Nat)) (x := x) hq (opsD x.e)
  refine Fun.of T [] Try.func87 rfl Try.ntmps87 Try.results87 rfl (by kernel_rfl) ?_
  show VC _ _ _ ⟨_, (bd, .cells 139 18 (doO u q c m r (i : Nat) x)) :: q.h c []⟩ _
  repeat' first | refine vs T rfl fun K hK => ?_; (try simp (disch := omega) only [go_sem, Nat.reduceBEq, Nat.reduceAdd, hm]); (first | refine hK _ _ ?_; clear hK K | refine Op1.lend rfl rfl (c1) (hfz) (.inr rfl) ?_; refine hK _ _ ?_; clear hK K | refine Op1.cally (Hr := []) rfl rfl (c2) rfl (by rw [List.append_nil]; exact List.Perm.refl _) (fun q hq => ?_); refine hK _ _ ?_; clear hK K) | refine st rfl ?_ | refine sc rfl ?_ | refine nl ?_
  exact ret0 T rfl (List.Sublist.refl _) ⟨q, hq, rfl, by first | exact List.append_nil _ | rfl⟩

set_option maxHeartbeats 4000000 in
theorem jump_ok : DoesTo 88 bd u q c m r i x (setP c i x.to) := by
  have c2 := goes_ok bd u q c hq m r i h.pc x x.to
  refine Fun.of T [] Try.func88 rfl Try.ntmps88 Try.results88 rfl (by kernel_rfl) ?_
  show VC _ _ _ ⟨_, (bd, .cells 139 18 (doO u q c m r (i : Nat) x)) :: q.h c []⟩ _
  repeat' first | refine vs T rfl fun K hK => ?_; (try simp (disch := omega) only [go_sem, Nat.reduceBEq, Nat.reduceAdd]); (first | refine hK _ _ ?_; clear hK K | refine Op1.cally (Hr := []) rfl rfl (c2) rfl (by rw [List.append_nil]; exact List.Perm.refl _) (fun q hq => ?_); refine hK _ _ ?_; clear hK K) | refine st rfl ?_ | refine nl ?_
  exact ret0 T rfl (List.Sublist.refl _) ⟨q, hq, rfl, by first | exact List.append_nil _ | rfl⟩

set_option maxHeartbeats 4000000 in
theorem branch_ok : DoesTo 89 bd u q c m r i x (if valX u row x.e = 0 then setP c i x.to else c) := by
  have c1 := dvalue_ok u c m r i x row h.reg x.e h.e (h.okc.row row (List.mem_of_getElem? h.reg))
  have c2 := goes_ok bd u q c hq m r i h.pc x x.to
  have hfz := dW_fz2 (bd := bd) (u := u) (m := m) (r := r) (t := (i : Nat)) (x := x) hq (opsD x.e)
  refine Fun.of T [] Try.func89 rfl Try.ntmps89 Try.results89 rfl (by kernel_rfl) ?_
  show VC _ _ _ ⟨_, (bd, .cells 139 18 (doO u q c m r (i : Nat) x)) :: q.h c []⟩ _
  by_cases h0 : valX u row x.e = 0
  · have e0 : (valX u row x.e == 0) = true := by simpa using h0
    rw [if_pos h0]
    repeat' first | refine vs T rfl fun K hK => ?_; (try simp (disch := omega) only [go_sem, Nat.reduceBEq, Nat.reduceAdd, e0]); (first | refine hK _ _ ?_; clear hK K | refine Op1.lend rfl rfl (c1) (hfz) (.inr rfl) ?_; refine hK _ _ ?_; clear hK K | refine Op1.cally (Hr := []) rfl rfl (c2) rfl (by rw [List.append_nil]; exact List.Perm.refl _) (fun q hq => ?_); refine hK _ _ ?_; clear hK K) | refine st rfl ?_ | refine sc rfl ?_ | refine nl ?_
    exact ret0 T rfl (List.Sublist.refl _) ⟨q, hq, rfl, by first | exact List.append_nil _ | rfl⟩
  · have e0 : (valX u row x.e == 0) = false := by simpa using h0
    rw [if_neg h0]
    repeat' first | refine vs T rfl fun K hK => ?_; (try simp (disch := omega) only [go_sem, Nat.reduceBEq, Nat.reduceAdd, e0]); (first | refine hK _ _ ?_; clear hK K | refine Op1.lend rfl rfl (c1) (hfz) (.inr rfl) ?_; refine hK _ _ ?_; clear hK K) | refine st rfl ?_ | refine sc rfl ?_ | refine nl ?_
    exact ret0 T rfl (List.Sublist.refl _) ⟨q, hq, rfl, rfl⟩

set_option maxHeartbeats 8000000 in
theorem exchange_ok (ho : x.op = 7) : DoesTo 92 bd u q c m r i x (setM (setRX c i row x (memX c x)) x.loc.toNat (valX u row x.e)) := by
  have c1 := dvalue_ok u c m r i x row h.reg x.e h.e (h.okc.row row (List.mem_of_getElem? h.reg))
  have c0 := mem_ok u c m r (i : Nat) x (h.l (.inr (.inr (.inr ho))))
  have c2 := set_ok bd u q c hq m r i x row h.reg (h.r (.inr (.inr (.inr (.inr ho))))) (memX c x)
  have c3 := fun (q2 : OC) (h2 : q2.ok (setRX c i row x (memX c x))) => store_ok bd u q2 (setRX c i row x (memX c x)) h2 m r (i : Nat) x (h.l (.inr (.inr (.inr ho)))) (valX u row x.e)
  have hfz := dW_fz2 (bd := bd) (u := u) (m := m) (r := r) (t := (i : Nat)) (x := x) hq (opsD x.e)
  have hfz0 := dW_fz1 (bd := bd) (u := u) (m := m) (r := r) (t := (i : Nat)) (x := x) hq
  refine Fun.of T [] Try.func92 rfl Try.ntmps92 Try.results92 rfl (by kernel_rfl) ?_
  show VC _ _ _ ⟨_, (bd, .cells 139 18 (doO u q c m r (i : Nat) x)) :: q.h c []⟩ _
  repeat' first | refine dr (id := 0) T 8 (by kernel_rfl) ?_ | refine gn ?_ | apply VCg.step T rfl rfl; focus ((try simp (disch := omega) only [go_sem, Nat.reduceBEq, Nat.reduceAdd]); (first | exact rfl | refine Op1.lend rfl rfl (c0) (hfz0) (.inr rfl) ?_; exact ⟨rfl, rfl⟩)) | refine vs T rfl fun K hK => ?_; (try simp (disch := omega) only [go_sem, Nat.reduceBEq]); (first | refine hK _ _ ?_; clear hK K | refine Op1.lend rfl rfl (c1) (hfz) (.inr rfl) ?_; refine hK _ _ ?_; clear hK K | refine Op1.cally (Hr := []) rfl rfl (c2) rfl (by rw [List.append_nil]; exact List.Perm.refl _) (fun q hq => ?_); refine hK _ _ ?_; clear hK K | refine Op1.cally (Hr := []) rfl rfl (c3 q hq) rfl (by rw [List.append_nil]; exact List.Perm.refl _) (fun q hq => ?_); refine hK _ _ ?_; clear hK K) | refine st rfl ?_ | refine nl ?_
  exact ret0 T rfl (List.Sublist.refl _) ⟨q, hq, rfl, by first | exact List.append_nil _ | rfl⟩

set_option maxHeartbeats 8000000 in
theorem add_ok (ho : x.op = 6) : DoesTo 91 bd u q c m r i x (setM (setRX c i row x (memX c x)) x.loc.toNat ((memX c x + valX u row x.e).tmod u.md)) := by
  have c1 := dvalue_ok u c m r i x row h.reg x.e h.e (h.okc.row row (List.mem_of_getElem? h.reg))
  have c0 := mem_ok u c m r (i : Nat) x (h.l (.inr (.inr (.inl ho))))
  have c2 := set_ok bd u q c hq m r i x row h.reg (h.r (.inr (.inr (.inr (.inl ho))))) (memX c x)
  have c3 := fun (q2 : OC) (h2 : q2.ok (setRX c i row x (memX c x))) => store_ok bd u q2 (setRX c i row x (memX c x)) h2 m r (i : Nat) x (h.l (.inr (.inr (.inl ho)))) ((memX c x + valX u row x.e).tmod u.md)
  have hfz := dW_fz2 (bd := bd) (u := u) (m := m) (r := r) (t := (i : Nat)) (x := x) hq (opsD x.e)
  have hfz0 := dW_fz1 (bd := bd) (u := u) (m := m) (r := r) (t := (i : Nat)) (x := x) hq
  have hb := memX_in h
  have hv := h.v
  have hw : IntKind.i64.wrap (memX c x + valX u row x.e) = memX c x + valX u row x.e := by rw [w64 (by omega)]
  have hmd := h.md
  refine Fun.of T [] Try.func91 rfl Try.ntmps91 Try.results91 rfl (by kernel_rfl) ?_
  show VC _ _ _ ⟨_, (bd, .cells 139 18 (doO u q c m r (i : Nat) x)) :: q.h c []⟩ _
  repeat' first | refine dr (id := 0) T 8 (by kernel_rfl) ?_ | refine gn ?_ | apply VCg.step T rfl rfl; focus ((try simp (disch := omega) only [go_sem, Nat.reduceBEq, Nat.reduceAdd]); (first | exact rfl | refine Op1.lend rfl rfl (c0) (hfz0) (.inr rfl) ?_; exact ⟨rfl, rfl⟩)) | refine vs T rfl fun K hK => ?_; (try simp (disch := omega) only [go_sem, Nat.reduceBEq, dW, hw, hmd, ne_eq, not_false_eq_true]); (first | refine hK _ _ ?_; clear hK K | refine Op1.lend rfl rfl (c1) (hfz) (.inr rfl) ?_; refine hK _ _ ?_; clear hK K | refine Op1.cally (Hr := []) rfl rfl (c2) rfl (by rw [List.append_nil]; exact List.Perm.refl _) (fun q hq => ?_); refine hK _ _ ?_; clear hK K | refine Op1.cally (Hr := []) rfl rfl (c3 q hq) rfl (by rw [List.append_nil]; exact List.Perm.refl _) (fun q hq => ?_); refine hK _ _ ?_; clear hK K) | refine st rfl ?_ | refine nl ?_
  exact ret0 T rfl (List.Sublist.refl _) ⟨q, hq, rfl, by first | exact List.append_nil _ | rfl⟩

set_option maxHeartbeats 8000000 in
theorem swap_ok (ho : x.op = 5) : DoesTo 90 bd u q c m r i x (if memX c x = valX u row x.e then setM (setRX c i row x (memX c x)) x.loc.toNat (valX u row x.f) else setRX c i row x (memX c x)) := by
  have c1 := dvalue_ok u c m r i x row h.reg x.e h.e (h.okc.row row (List.mem_of_getElem? h.reg))
  have c1f := dvalue_ok u c m r i x row h.reg x.f h.f (h.okc.row row (List.mem_of_getElem? h.reg))
  have c0 := mem_ok u c m r (i : Nat) x (h.l (.inr (.inl ho)))
  have c2 := set_ok bd u q c hq m r i x row h.reg (h.r (.inr (.inr (.inl ho)))) (memX c x)
  have c3 := fun (q2 : OC) (h2 : q2.ok (setRX c i row x (memX c x))) => store_ok bd u q2 (setRX c i row x (memX c x)) h2 m r (i : Nat) x (h.l (.inr (.inl ho))) (valX u row x.f)
  have hfz := dW_fz2 (bd := bd) (u := u) (m := m) (r := r) (t := (i : Nat)) (x := x) hq (opsD x.e)
  have hfzf := dW_fz2 (bd := bd) (u := u) (m := m) (r := r) (t := (i : Nat)) (x := x) hq (opsD x.f)
  have hfz0 := dW_fz1 (bd := bd) (u := u) (m := m) (r := r) (t := (i : Nat)) (x := x) hq
  refine Fun.of T [] Try.func90 rfl Try.ntmps90 Try.results90 rfl (by kernel_rfl) ?_
  show VC _ _ _ ⟨_, (bd, .cells 139 18 (doO u q c m r (i : Nat) x)) :: q.h c []⟩ _
  by_cases h0 : memX c x = valX u row x.e
  · have e0 : (memX c x == valX u row x.e) = true := by simpa using h0
    rw [if_pos h0]
    repeat' first | refine dr (id := 0) T 15 (by kernel_rfl) ?_ | refine gn ?_ | apply VCg.step T rfl rfl; focus ((try simp (disch := omega) only [go_sem, Nat.reduceBEq, Nat.reduceAdd]); (first | exact rfl | refine Op1.lend rfl rfl (c0) (hfz0) (.inr rfl) ?_; exact ⟨rfl, rfl⟩ | refine Op1.lend rfl rfl (c1) (hfz) (.inr rfl) ?_; exact ⟨rfl, rfl⟩)) | refine vs T rfl fun K hK => ?_; (try simp (disch := omega) only [go_sem, Nat.reduceBEq, e0]); (first | refine hK _ _ ?_; clear hK K | refine Op1.lend rfl rfl (c1f) (hfzf) (.inr rfl) ?_; refine hK _ _ ?_; clear hK K | refine Op1.cally (Hr := []) rfl rfl (c2) rfl (by rw [List.append_nil]; exact List.Perm.refl _) (fun q hq => ?_); refine hK _ _ ?_; clear hK K | refine Op1.cally (Hr := []) rfl rfl (c3 q hq) rfl (by rw [List.append_nil]; exact List.Perm.refl _) (fun q hq => ?_); refine hK _ _ ?_; clear hK K) | refine st rfl ?_ | refine sc rfl ?_ | refine nl ?_
    exact ret0 T rfl (List.Sublist.refl _) ⟨q, hq, rfl, by first | exact List.append_nil _ | rfl⟩
  · have e0 : (memX c x == valX u row x.e) = false := by simpa using h0
    rw [if_neg h0]
    repeat' first | refine dr (id := 0) T 15 (by kernel_rfl) ?_ | refine gn ?_ | apply VCg.step T rfl rfl; focus ((try simp (disch := omega) only [go_sem, Nat.reduceBEq, Nat.reduceAdd]); (first | exact rfl | refine Op1.lend rfl rfl (c0) (hfz0) (.inr rfl) ?_; exact ⟨rfl, rfl⟩ | refine Op1.lend rfl rfl (c1) (hfz) (.inr rfl) ?_; exact ⟨rfl, rfl⟩)) | refine vs T rfl fun K hK => ?_; (try simp (disch := omega) only [go_sem, Nat.reduceBEq, e0]); (first | refine hK _ _ ?_; clear hK K | refine Op1.lend rfl rfl (c1f) (hfzf) (.inr rfl) ?_; refine hK _ _ ?_; clear hK K | refine Op1.cally (Hr := []) rfl rfl (c2) rfl (by rw [List.append_nil]; exact List.Perm.refl _) (fun q hq => ?_); refine hK _ _ ?_; clear hK K) | refine st rfl ?_ | refine sc rfl ?_ | refine nl ?_
    exact ret0 T rfl (List.Sublist.refl _) ⟨q, hq, rfl, by first | exact List.append_nil _ | rfl⟩
end
end Go.Proofs.Ytfifcjgcajpnoaa
