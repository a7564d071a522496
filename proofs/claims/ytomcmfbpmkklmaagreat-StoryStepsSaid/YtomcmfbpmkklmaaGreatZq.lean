/- Buffers that can be, in plain Lean. No condition. -/
import Derived.Test.YtomcmfbpmkklmaaGreatZm
import Derived.Test.YtomcmfbpmkklmaaGreatZa
namespace Go.Proofs.YtomcmfbpmkklmaaGreat
set_option linter.unusedSimpArgs false
set_option linter.unusedVariables false
open Go Go.Proofs Go.Vc
structure RB (m r md lc : Int) (b : List En) : Prop where
 el : ∀ e, e ∈ b → 0 ≤ e.1 ∧ e.1 < lc ∧ 0 ≤ e.2 ∧ e.2 < md
 p3 : m = 3 → Srt b ∧ ∀ l, ((cntF l b : Nat) : Int) ≤ r
 p2 : m = 2 → (b.length : Int) ≤ r
 p1 : m = 1 → b = []
theorem srt_adj {b : List En} (h : ∀ (i : Nat) (x y : En), b[i]? = some x → b[i + 1]? = some y → x.1 ≤ y.1) : Srt b := by
 have key : ∀ (i j : Nat) (x y : En), i < j → b[i]? = some x → b[j]? = some y → x.1 ≤ y.1 := by
  intro i j
  induction j with
  | zero => intro x y hi; omega
  | succ j ih =>
   intro x y hi hx hy
   have hj : j + 1 < b.length := (List.getElem?_eq_some_iff.1 hy).1
   obtain ⟨z, hz⟩ : ∃ z, b[j]? = some z := ⟨_, List.getElem?_eq_getElem (by omega)⟩
   have h1 := h j z y hz hy
   rcases Nat.lt_or_ge i j with h' | h'
   ·have := ih x z h' hx hz; omega
   ·obtain rfl : i = j := by omega
    rw [hx] at hz; cases hz; exact h1
 clear h
 induction b with
 | nil => trivial
 | cons x r ih =>
  refine ⟨fun y hy => ?_, ih fun i j a c hi ha hc => key (i + 1) (j + 1) a c (by omega) (by simpa using ha) (by simpa using hc)⟩
  obtain ⟨j, hj⟩ := List.getElem?_of_mem hy
  exact key 0 (j + 1) x y (by omega) rfl (by simpa using hj)
theorem cnt_none {l : Int} {b : List En} (h : ∀ e, e ∈ b → e.1 ≠ l) : cntF l b = 0 := by
 unfold cntF
 rw [List.countP_eq_zero]
 intro e he
 simpa using h e he
theorem rightR_iff {m r md lc : Int} {b : List En} : rightR m r md lc b = true ↔ gateR m r md = true ∧ RB m r md lc b := by
 constructor
 ·intro h
  have he : ∀ e, e ∈ b → 0 ≤ e.1 ∧ e.1 < lc ∧ 0 ≤ e.2 ∧ e.2 < md := fun e he => rightR_at h he
  simp only [rightR, Bool.and_eq_true, List.all_eq_true] at h
  obtain ⟨⟨h1, h2⟩, h3⟩ := h
  have hr : 0 ≤ r := by simp only [gateR, Bool.and_eq_true, decide_eq_true_eq] at h1; omega
  refine ⟨h1, he, fun hm => ⟨srt_adj fun i x y hx hy => ?_, fun l => ?_⟩, fun hm => ?_, fun hm => ?_⟩
  ·have := h2 (i + 1) (List.mem_range.2 (List.getElem?_eq_some_iff.1 hy).1)
   simp [badAt, badP, hm, hx, hy] at this
   omega
  ·by_cases hl : ∃ e, e ∈ b ∧ e.1 = l
   ·obtain ⟨e, he, rfl⟩ := hl
    obtain ⟨i, hi⟩ := List.getElem?_of_mem he
    have := h2 i (List.mem_range.2 (List.getElem?_eq_some_iff.1 hi).1)
    simp [badAt, badP, hm, hi] at this
    omega
   ·rw [cnt_none fun e he h => hl ⟨e, he, h⟩]
    simpa using hr
  ·subst hm
   simp [tailR] at h3
   rcases h3 with h3 | h3
   ·omega
   ·rw [h3]; simpa using hr
  ·subst hm
   simp [tailR] at h3
   exact h3
 ·rintro ⟨h1, h⟩
  have hg := h1
  simp only [gateR, Bool.and_eq_true, decide_eq_true_eq] at hg
  simp only [rightR, h1, Bool.true_and, Bool.and_eq_true, List.all_eq_true]
  refine ⟨fun i hi => ?_, ?_⟩
  ·have hi := List.mem_range.1 hi
   obtain ⟨x, hx⟩ : ∃ x, b[i]? = some x := ⟨_, List.getElem?_eq_getElem hi⟩
   have hE := h.el x (List.mem_of_getElem? hx)
   have e1 : badE md lc x = false := by simp [badE]; omega
   have e2 : badP m r b i x = false := by
    unfold badP
    by_cases hm : m = 3
    ·obtain ⟨s1, s2⟩ := h.p3 hm
     have c2 := s2 x.1
     rcases Nat.eq_zero_or_pos i with h0 | h0
     ·subst h0; simp; omega
     ·obtain ⟨y, hy⟩ : ∃ y, b[i - 1]? = some y := ⟨_, List.getElem?_eq_getElem (by omega)⟩
      have := Srt.le s1 (i - 1) y x hy (by rw [Nat.sub_add_cancel h0]; exact hx)
      simp [hy]; omega
    ·simp [hm]
   simp [badAt, hx, e1, e2]
  ·have hm : m = 1 ∨ m = 2 ∨ m = 3 := by omega
   rcases hm with hm | hm | hm
   ·rw [h.p1 hm]; simp [tailR]
   ·have := h.p2 hm; simp [tailR, hm, this]
   ·simp [tailR, hm]
theorem len_cnt (r : Nat) : ∀ (n : Nat) (b : List En), (∀ e, e ∈ b → 0 ≤ e.1 ∧ e.1 < (n : Int)) → (∀ l, cntF l b ≤ r) → b.length ≤ n * r
 | 0, b, h, _ => by
  cases b with
  | nil => simp
  | cons e b => have := h e (List.mem_cons_self ..); omega
 | n + 1, b, h, hc => by
  have ih := len_cnt r n (b.filter fun e => !decide (e.1 = (n : Int))) (fun e he => by
   have h1 := List.mem_filter.1 he
   have h2 := h e h1.1
   have h3 : e.1 ≠ (n : Int) := by simpa using h1.2
   omega) (fun l => Nat.le_trans (List.filter_sublist.countP_le) (hc l))
  have hs : b.length = cntF n b + (b.filter fun e => !decide (e.1 = (n : Int))).length := by
   unfold cntF
   rw [← List.countP_eq_length_filter]
   refine (List.length_eq_countP_add_countP (p := fun x : En => decide (x.1 = (n : Int)))).trans ?_
   congr 1
   exact List.countP_congr fun x _ => by simp
  have := hc n
  rw [Nat.succ_mul]
  omega
theorem RB.len {m r md lc : Int} {b : List En} (h : RB m r md lc b) (hm : 1 ≤ m ∧ m ≤ 3) (hr : 1 ≤ r ∧ r ≤ 4) (hl : lc ≤ 6) : b.length ≤ 60 := by
 have : m = 1 ∨ m = 2 ∨ m = 3 := by omega
 rcases this with hm | hm | hm
 ·rw [h.p1 hm]; simp
 ·have := h.p2 hm; omega
 ·have h3 := (h.p3 hm).2
  have := len_cnt 4 6 b (fun e he => by have := h.el e he; omega) (fun l => by have := h3 l; omega)
  omega
theorem cnt_ins {b : List En} (h : Srt b) (e : En) (l : Int) : cntF l (insF e b) = cntF l b + cntF l [e] := by
 have := congrArg List.length (insF_que e l b h)
 simp only [que, List.length_append] at this
 simpa only [cntF, List.countP_eq_length_filter] using this
theorem cnt_one (e : En) (l : Int) : cntF l [e] = if e.1 = l then 1 else 0 := by
 unfold cntF
 by_cases h : e.1 = l <;> simp [h]
theorem RB.push {m r md lc : Int} {b : List En} (h : RB m r md lc b) (hm : 1 ≤ m ∧ m ≤ 3) {e : En} (he : 0 ≤ e.1 ∧ e.1 < lc ∧ 0 ≤ e.2 ∧ e.2 < md) (hr : roomF m r e.1 b = true) : RB m r md lc (pushF m e b) := by
 have : m = 1 ∨ m = 2 ∨ m = 3 := by omega
 rcases this with hm | hm | hm <;> subst hm
 ·simp [roomF] at hr
 ·have hp : pushF 2 e b = b ++ [e] := by simp [pushF]
  rw [hp]
  simp [roomF] at hr
  refine ⟨fun y hy => ?_, fun h => by omega, fun _ => by simp; omega, fun h => by omega⟩
  rcases List.mem_append.1 hy with hy | hy
  ·exact h.el y hy
  ·rw [List.mem_singleton.1 hy]; exact he
 ·have hp : pushF 3 e b = insF e b := by simp [pushF]
  rw [hp]
  simp [roomF] at hr
  obtain ⟨s1, s2⟩ := h.p3 rfl
  refine ⟨fun y hy => ?_, fun _ => ⟨insF_srt e b s1, fun l => ?_⟩, fun h => by omega, fun h => by omega⟩
  ·rcases (insF_mem e b y).1 hy with rfl | hy
   ·exact he
   ·exact h.el y hy
  ·rw [cnt_ins s1, cnt_one]
   have := s2 l
   split
   ·rename_i h; subst h; omega
   ·simpa using this
theorem cutF_sub (k : Nat) (b : List En) : (cutF k b).Sublist b := by
 unfold cutF
 have := (List.Sublist.refl (b.take k)).append (List.drop_sublist_drop_left b (Nat.le_succ k))
 rwa [List.take_append_drop] at this
theorem Srt.sub : ∀ {a b : List En}, a.Sublist b → Srt b → Srt a
 | _, _, .slnil, h => h
 | _, _, .cons x hs, h => Srt.sub hs h.2
 | _, _, .cons_cons x hs, h => ⟨fun y hy => h.1 y (hs.subset hy), Srt.sub hs h.2⟩
theorem RB.sub {m r md lc : Int} {a b : List En} (h : RB m r md lc b) (hs : a.Sublist b) : RB m r md lc a where
 el e he := h.el e (hs.subset he)
 p3 hm := ⟨Srt.sub hs (h.p3 hm).1, fun l => by have := (h.p3 hm).2 l; have := hs.countP_le (p := fun x => decide (x.1 = l)); unfold cntF at *; omega⟩
 p2 hm := by have := h.p2 hm; have := hs.length_le; omega
 p1 hm := by rw [h.p1 hm] at hs; exact List.sublist_nil.1 hs
theorem popF_sub (m l : Int) (b : List En) : (popF m l b).1.Sublist b := by
 unfold popF
 cases nextF m l b with
 | none => exact List.Sublist.refl _
 | some k => exact cutF_sub k b
theorem rightC_iff {u : Un} {c : Cf} {m r : Int} : rightC u c m r = true ↔ unitB u = true ∧ (c.pc.length = u.regs.length ∧ c.regs.length = u.regs.length ∧ c.bufs.length = u.regs.length ∧ c.mem.length = u.init.length) ∧ allB c.mem u.md = true ∧ (∀ t, t < u.regs.length → thrB u c m r t = true) ∧ rightR m r u.md u.init.length [] = true := by
 simp only [rightC, headC, Bool.and_eq_true, decide_eq_true_eq, List.all_eq_true, List.mem_range]
 constructor
 ·rintro ⟨⟨⟨⟨⟨⟨⟨a, b⟩, c⟩, d⟩, e⟩, f⟩, g⟩, h⟩; exact ⟨a, ⟨b, c, d, e⟩, f, g, h⟩
 ·rintro ⟨a, ⟨b, c, d, e⟩, f, g, h⟩; exact ⟨⟨⟨⟨⟨⟨⟨a, b⟩, c⟩, d⟩, e⟩, f⟩, g⟩, h⟩
theorem thrB_iff {u : Un} {c : Cf} {m r : Int} {t : Nat} : thrB u c m r t = true ↔ (0 ≤ c.pc.getD t 0 ∧ c.pc.getD t 0 < ((u.code.getD t []).length : Int)) ∧ (((c.regs.getD t []).length : Int) = u.regs.getD t 0 ∧ allB (c.regs.getD t []) u.md = true) ∧ rightR m r u.md u.init.length (c.bufs.getD t []) = true := by
 simp only [thrB, Bool.and_eq_true, decide_eq_true_eq]
 constructor
 ·rintro ⟨⟨⟨⟨a, b⟩, c⟩, d⟩, e⟩; exact ⟨⟨a, b⟩, ⟨c, d⟩, e⟩
 ·rintro ⟨⟨a, b⟩, ⟨c, d⟩, e⟩; exact ⟨⟨⟨⟨a, b⟩, c⟩, d⟩, e⟩
theorem getD_set {α : Type} (l : List α) (i t : Nat) (v d : α) (hi : i < l.length) : (l.set i v).getD t d = if t = i then v else l.getD t d := by
 rw [List.getD_eq_getElem?_getD, List.getD_eq_getElem?_getD, List.getElem?_set]
 by_cases h : t = i
 ·subst h; simp [hi]
 ·rw [if_neg (fun e => h e.symm), if_neg h]
section
variable {u : Un} {c : Cf} {m r : Int}
theorem right_P (h : rightC u c m r = true) {i : Nat} (hi : i < c.pc.length) {v : Int} (hv : 0 ≤ v ∧ v < ((u.code.getD i []).length : Int)) : rightC u (setP c i v) m r = true := by
 obtain ⟨a, ⟨b, c1, d, e⟩, f, g, k⟩ := rightC_iff.1 h
 refine rightC_iff.2 ⟨a, ⟨by simpa [setP] using b, c1, d, e⟩, f, fun t ht => ?_, k⟩
 obtain ⟨h1, h2, h3⟩ := thrB_iff.1 (g t ht)
 refine thrB_iff.2 ⟨?_, h2, h3⟩
 show 0 ≤ (c.pc.set i v).getD t 0 ∧ (c.pc.set i v).getD t 0 < _
 rw [getD_set _ _ _ _ _ hi]
 split
 ·rename_i e; rw [e]; exact hv
 ·exact h1
theorem right_R (h : rightC u c m r = true) {i : Nat} (hi : i < c.regs.length) {row : List Int} (hl : row.length = (c.regs.getD i []).length) (hv : allB row u.md = true) : rightC u (setR c i row) m r = true := by
 obtain ⟨a, ⟨b, c1, d, e⟩, f, g, k⟩ := rightC_iff.1 h
 refine rightC_iff.2 ⟨a, ⟨b, by simpa [setR] using c1, d, e⟩, f, fun t ht => ?_, k⟩
 obtain ⟨h1, h2, h3⟩ := thrB_iff.1 (g t ht)
 refine thrB_iff.2 ⟨h1, ?_, h3⟩
 show (((c.regs.set i row).getD t []).length : Int) = _ ∧ allB ((c.regs.set i row).getD t []) u.md = true
 rw [getD_set _ _ _ _ _ hi]
 split
 ·rename_i e; subst e; exact ⟨by rw [hl]; exact h2.1, hv⟩
 ·exact h2
theorem right_M (h : rightC u c m r = true) (i : Nat) {v : Int} (hv : 0 ≤ v ∧ v < u.md) : rightC u (setM c i v) m r = true := by
 obtain ⟨a, ⟨b, c1, d, e⟩, f, g, k⟩ := rightC_iff.1 h
 exact rightC_iff.2 ⟨a, ⟨b, c1, d, by simpa [setM] using e⟩, allB_set f i hv, fun t ht => g t ht, k⟩
theorem right_B (h : rightC u c m r = true) {i : Nat} (hi : i < c.bufs.length) {b' : List En} (hv : rightR m r u.md u.init.length b' = true) : rightC u (setB c i b') m r = true := by
 obtain ⟨a, ⟨b, c1, d, e⟩, f, g, k⟩ := rightC_iff.1 h
 refine rightC_iff.2 ⟨a, ⟨b, c1, by simpa [setB] using d, e⟩, f, fun t ht => ?_, k⟩
 obtain ⟨h1, h2, h3⟩ := thrB_iff.1 (g t ht)
 refine thrB_iff.2 ⟨h1, h2, ?_⟩
 show rightR m r u.md u.init.length ((c.bufs.set i b').getD t []) = true
 rw [getD_set _ _ _ _ _ hi]
 split
 ·exact hv
 ·exact h3
theorem Rt.rb (h : Rt u c m r) {i : Nat} {b : List En} (hb : c.bufs[i]? = some b) : RB m r u.md u.init.length b := by
 have hl := h.lens
 have hi := (List.getElem?_eq_some_iff.1 hb).1
 have := (thrB_iff.1 (h.thr (t := i) (by omega))).2.2
 rw [List.getD_eq_getElem?_getD, hb, Option.getD_some] at this
 exact (rightR_iff.1 this).2
theorem rt_of (hu : OkU u) (h : rightC u c m r = true) : Rt u c m r := by
 obtain ⟨a, ⟨b, c1, d, e⟩, f, g, k⟩ := rightC_iff.1 h
 have hun := a
 simp only [unitB, headB, Bool.and_eq_true, decide_eq_true_eq, List.all_eq_true] at a
 obtain ⟨⟨⟨⟨⟨⟨⟨a1, a2⟩, a3⟩, a4⟩, a5⟩, a6⟩, a7⟩, a8⟩ := a
 have kg : gateR m r u.md = true := (rightR_iff.1 k).1
 simp only [gateR, Bool.and_eq_true, decide_eq_true_eq] at kg
 refine ⟨hu, ⟨by omega, by omega, by omega, fun rw hr => ?_, by omega, fun q hq => ?_⟩, h⟩
 ·obtain ⟨i, hi⟩ := List.getElem?_of_mem hr
  have hil := (List.getElem?_eq_some_iff.1 hi).1
  have h2 := (thrB_iff.1 (g i (by omega))).2.1.1
  have h3 := a8 i (List.mem_range.2 (by omega))
  rw [List.getD_eq_getElem?_getD, hi, Option.getD_some] at h2
  simp only [rowB, Bool.and_eq_true, decide_eq_true_eq] at h3
  omega
 ·obtain ⟨i, hi⟩ := List.getElem?_of_mem hq
  have hil := (List.getElem?_eq_some_iff.1 hi).1
  have h3 := (thrB_iff.1 (g i (by omega))).2.2
  rw [List.getD_eq_getElem?_getD, hi, Option.getD_some] at h3
  have := (rightR_iff.1 h3).2.len (by omega) (by omega) (by omega)
  omega
theorem lastF_mem {l : Int} : ∀ {b : List En} {v : Int}, lastF l b = some v → ∃ e, e ∈ b ∧ e.1 = l ∧ e.2 = v
 | [], v, h => by cases h
 | e :: b, v, h => by
  unfold lastF at h
  cases hl : lastF l b with
  | some w =>
   rw [hl] at h
   obtain ⟨y, h1, h2⟩ := lastF_mem hl
   exact ⟨y, List.mem_cons_of_mem _ h1, h2.1, by simp_all⟩
  | none =>
   rw [hl] at h
   by_cases he : e.1 = l
   ·exact ⟨e, List.mem_cons_self .., he, by simp_all⟩
   ·simp_all
theorem mem_in (h : Rt u c m r) (k : Nat) : 0 ≤ c.mem.getD k 0 ∧ c.mem.getD k 0 < u.md := allB_getD h.lens.2.2.2.2 (by have := h.uhead; omega) k
theorem readF_in (h : Rt u c m r) (t l : Int) : 0 ≤ readF c t l ∧ readF c t l < u.md := by
 have hu := h.uhead
 unfold readF
 split
 ·rename_i b n h1 h2 h3 h4
  cases hl : lastF l b with
  | none => exact allB_get h.lens.2.2.2.2 h4
  | some v =>
   obtain ⟨e, he, _, rfl⟩ := lastF_mem hl
   exact ((h.rb h2).el e he).2.2
 ·omega
theorem Rt.act (h : Rt u c m r) (t : Int) : Rt u (actT u c m r t) m r := by
 cases hE : enT u c m r t with
 | false => rw [actT_no hE]; exact h
 | true =>
 by_cases ht : t < 0 ∨ t ≥ c.pc.length
 ·rw [enT_no ht] at hE; cases hE
 obtain ⟨i, rfl⟩ : ∃ i : Nat, t = (i : Int) := ⟨t.toNat, by omega⟩
 obtain ⟨x, row, b, p, ha⟩ := h.at (i := i) (by omega)
 rw [actT_at ha, hE]
 rw [enT_at ha.thr] at hE
 refine rt_of h.okU ?_
 have hu := h.uhead
 have hl := h.lens
 obtain ⟨rw, n, k1, k2, k3, k4, k5⟩ := ha.kind
 have hnd : x.op ≠ 22 := fun e => by simp [enB, e] at hE
 obtain ⟨k5, k6⟩ := k5.resolve_left hnd
 have hil : i < c.pc.length := by omega
 have hcd : u.code.getD i [] = rw := by rw [List.getD_eq_getElem?_getD, k1]; rfl
 have hrd : c.regs.getD i [] = row := by rw [List.getD_eq_getElem?_getD, ha.thr.reg]; rfl
 have hrl := (List.getElem?_eq_some_iff.1 ha.thr.reg).1
 have hbl := (List.getElem?_eq_some_iff.1 ha.thr.buf).1
 have hvx : ∀ l, 0 ≤ valX u row l ∧ valX u row l < u.md := fun l => valF_in (by omega) _ _ _ _
 have hra : allB row u.md = true := by
  have := (thrB_iff.1 (h.thr (t := i) (by omega))).2.1.2
  rwa [hrd] at this
 have hP : ∀ v : Int, (0 ≤ v ∧ v < (rw.length : Int)) → rightC u (setP c i v) m r = true := fun v hv => right_P h.rt hil (by rw [hcd]; exact hv)
 have h1 := hP ((p + 1 : Nat) : Int) (by omega)
 show rightC u (afterX u (setP c i ((p + 1 : Nat) : Int)) m i x row b) m r = true
 generalize hc1 : setP c i ((p + 1 : Nat) : Int) = c1 at h1 ⊢
 have e1 : c1.pc.length = c.pc.length := by subst hc1; simp [setP]
 have e2 : c1.regs = c.regs := by subst hc1; rfl
 have e3 : c1.mem = c.mem := by subst hc1; rfl
 have e4 : c1.bufs = c.bufs := by subst hc1; rfl
 have hR : ∀ v : Int, (0 ≤ v ∧ v < u.md) → rightC u (setRX c1 i row x v) m r = true := fun v hv => right_R h1 (by rw [e2]; exact hrl) (by rw [e2, hrd]; simp) (allB_set hra _ hv)
 have hM : 0 ≤ memX c1 x ∧ memX c1 x < u.md := by unfold memX; rw [e3]; exact mem_in h _
 have hP1 : (0 ≤ x.to ∧ x.to < (rw.length : Int)) → rightC u (setP c1 i x.to) m r = true := fun hv => right_P h1 (by omega) (by rw [hcd]; exact hv)
 unfold afterX
 split
 ·rename_i ho; exact hP1 (one_to k5 (.inl ho))
 split
 ·rename_i _ ho
  split
  ·exact hP1 (one_to k5 (.inr ho))
  ·exact h1
 split
 ·exact hR _ (hvx _)
 split
 ·refine hR _ ?_
  have : readF c1 (i : Nat) x.loc = readF c (i : Nat) x.loc := by unfold readF; rw [e4, e3]
  rw [this]
  exact readF_in h _ _
 split
 ·rename_i ho
  split
  ·exact right_M h1 _ (hvx _)
  ·rename_i hm
   refine right_B h1 (by rw [e4]; exact hbl) ?_
   have hb := h.rb ha.thr.buf
   have hro : roomF m r x.loc b = true := by
    simp [enB, ho] at hE
    exact hE.resolve_left hm
   have hlc := one_loc k5 (.inr (.inl ho))
   exact rightR_iff.2 ⟨(rightR_iff.1 h.tail).1, hb.push h.gate.1 (e := (x.loc, valX u row x.e)) ⟨hlc.1, hlc.2, (hvx _).1, (hvx _).2⟩ hro⟩
 split
 ·split
  ·exact right_M (hR _ hM) _ (hvx _)
  ·exact hR _ hM
 split
 ·refine right_M (hR _ hM) _ ?_
  exact tmod_in (by have := (hvx x.e).1; omega) (by omega)
 split
 ·exact right_M (hR _ hM) _ (hvx _)
 ·exact h1
theorem OkC.act (h : Rt u c m r) (t : Int) : OkC (actT u c m r t) := (h.act t).okC
theorem Rt.flush (h : Rt u c m r) (t l : Int) : Rt u (flushC c m t l) m r := by
 unfold flushC
 cases hb : flushB c m t l with
 | false => exact h
 | true =>
  refine rt_of h.okU ?_
  unfold flushB at hb
  split at hb
  ·rename_i b h0 hbt
   have hrb := h.rb hbt
   rw [List.getD_eq_getElem?_getD, hbt, Option.getD_some]
   refine right_M (right_B h.rt (List.getElem?_eq_some_iff.1 hbt).1 (rightR_iff.2 ⟨(rightR_iff.1 h.tail).1, hrb.sub (popF_sub ..)⟩)) _ ?_
   exact (hrb.el _ (pop_mem hb)).2.2
  ·cases hb
end
def Off (i : Nat) (c d : Cf) : Prop := ∀ k, k ≠ i → d.pc[k]? = c.pc[k]? ∧ d.regs[k]? = c.regs[k]? ∧ d.bufs[k]? = c.bufs[k]?
section
variable {i : Nat} {c d : Cf}
theorem Off.refl : Off i c c := fun k _ => ⟨rfl, rfl, rfl⟩
theorem Off.P (h : Off i c d) (v : Int) : Off i c (setP d i v) := fun k hk => ⟨(List.getElem?_set_ne (Ne.symm hk)).trans (h k hk).1, (h k hk).2⟩
theorem Off.R (h : Off i c d) (v : List Int) : Off i c (setR d i v) := fun k hk => ⟨(h k hk).1, (List.getElem?_set_ne (Ne.symm hk)).trans (h k hk).2.1, (h k hk).2.2⟩
theorem Off.M (h : Off i c d) (j : Nat) (v : Int) : Off i c (setM d j v) := h
theorem Off.B (h : Off i c d) (v : List En) : Off i c (setB d i v) := fun k hk => ⟨(h k hk).1, (h k hk).2.1, (List.getElem?_set_ne (Ne.symm hk)).trans (h k hk).2.2⟩
theorem Off.X (h : Off i c d) (u : Un) (m : Int) (x : Ins) (row : List Int) (b : List En) : Off i c (afterX u d m i x row b) := by
 unfold afterX setRX
 split
 ·exact h.P _
 split
 ·split
  ·exact h.P _
  ·exact h
 split
 ·exact h.R _
 split
 ·exact h.R _
 split
 ·split
  ·exact h.M _ _
  ·exact h.B _
 split
 ·split
  ·exact (h.R _).M _ _
  ·exact h.R _
 split
 ·exact (h.R _).M _ _
 split
 ·exact (h.R _).M _ _
 ·exact h
end
section
variable {u : Un} {c : Cf} {m r : Int}
theorem Rt.sc (h : Rt u c 1 r) {b : List En} (hb : b ∈ c.bufs) : b = [] := by
 obtain ⟨i, hi⟩ := List.getElem?_of_mem hb
 exact (h.rb hi).p1 rfl
end
end Go.Proofs.YtomcmfbpmkklmaaGreat
